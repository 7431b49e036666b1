/- Contracts and plain laws that the law InterTurnsG needs, part 6. -/
import Derived.Test.YtcdcombogmflkaaGreatDoorZInterTurnsG5
import Derived.Test.YtcdcombogmflkaaGreatDoorProg
import Derived.KernelRfl
namespace Go.Am
open Go Go.Proofs
@[simp] theorem scal3:scal Tryz.prog 3=true:=by kernel_rfl
@[simp] theorem sz3:sz Tryz.prog 3=1:=by kernel_rfl
@[simp] theorem byt3:byt Tryz.prog 3=8:=by kernel_rfl
@[simp] theorem slE3:slE Tryz.prog 3=none:=by kernel_rfl
@[simp] theorem arE3:arE Tryz.prog 3=none:=by kernel_rfl
@[simp] theorem intOf3:intOf? Tryz.prog 3=some .i64:=by kernel_rfl
@[simp] theorem und3:Tryz.prog.underlying 3=some (.int .i64):=by kernel_rfl
@[simp] theorem isIface3:aqr Tryz.prog 3=false:=by kernel_rfl
@[simp] theorem zer3:zer Tryz.prog 3=some [.int .i64 0]:=by kernel_rfl
@[simp] theorem scal4:scal Tryz.prog 4=true:=by kernel_rfl
@[simp] theorem sz4:sz Tryz.prog 4=1:=by kernel_rfl
@[simp] theorem byt4:byt Tryz.prog 4=1:=by kernel_rfl
@[simp] theorem slE4:slE Tryz.prog 4=none:=by kernel_rfl
@[simp] theorem arE4:arE Tryz.prog 4=none:=by kernel_rfl
@[simp] theorem und4:Tryz.prog.underlying 4=some .bool:=by kernel_rfl
@[simp] theorem isIface4:aqr Tryz.prog 4=false:=by kernel_rfl
@[simp] theorem zer4:zer Tryz.prog 4=some [.bool false]:=by kernel_rfl
@[simp] theorem scal5:scal Tryz.prog 5=true:=by kernel_rfl
@[simp] theorem sz5:sz Tryz.prog 5=1:=by kernel_rfl
@[simp] theorem byt5:byt Tryz.prog 5=1:=by kernel_rfl
@[simp] theorem slE5:slE Tryz.prog 5=none:=by kernel_rfl
@[simp] theorem arE5:arE Tryz.prog 5=none:=by kernel_rfl
@[simp] theorem intOf5:intOf? Tryz.prog 5=some .u8:=by kernel_rfl
@[simp] theorem und5:Tryz.prog.underlying 5=some (.int .u8):=by kernel_rfl
@[simp] theorem isIface5:aqr Tryz.prog 5=false:=by kernel_rfl
@[simp] theorem zer5:zer Tryz.prog 5=some [.int .u8 0]:=by kernel_rfl
@[simp] theorem scal9:scal Tryz.prog 9=true:=by kernel_rfl
@[simp] theorem sz9:sz Tryz.prog 9=1:=by kernel_rfl
@[simp] theorem byt9:byt Tryz.prog 9=16:=by kernel_rfl
@[simp] theorem slE9:slE Tryz.prog 9=none:=by kernel_rfl
@[simp] theorem arE9:arE Tryz.prog 9=none:=by kernel_rfl
@[simp] theorem und9:Tryz.prog.underlying 9=some .string:=by kernel_rfl
@[simp] theorem isIface9:aqr Tryz.prog 9=false:=by kernel_rfl
@[simp] theorem scal20:scal Tryz.prog 20=true:=by kernel_rfl
@[simp] theorem sz20:sz Tryz.prog 20=1:=by kernel_rfl
@[simp] theorem byt20:byt Tryz.prog 20=16:=by kernel_rfl
@[simp] theorem slE20:slE Tryz.prog 20=none:=by kernel_rfl
@[simp] theorem arE20:arE Tryz.prog 20=none:=by kernel_rfl
@[simp] theorem isIface20:aqr Tryz.prog 20=true:=by kernel_rfl
@[simp] theorem zer20:zer Tryz.prog 20=some [.nilIface]:=by kernel_rfl
@[simp] theorem scal22:scal Tryz.prog 22=true:=by kernel_rfl
@[simp] theorem sz22:sz Tryz.prog 22=1:=by kernel_rfl
@[simp] theorem byt22:byt Tryz.prog 22=24:=by kernel_rfl
@[simp] theorem slE22:slE Tryz.prog 22=some 26:=by kernel_rfl
@[simp] theorem arE22:arE Tryz.prog 22=none:=by kernel_rfl
@[simp] theorem isIface22:aqr Tryz.prog 22=false:=by kernel_rfl
@[simp] theorem zer22:zer Tryz.prog 22=some [.slice none 0 0]:=by kernel_rfl
@[simp] theorem scal23:scal Tryz.prog 23=true:=by kernel_rfl
@[simp] theorem sz23:sz Tryz.prog 23=1:=by kernel_rfl
@[simp] theorem byt23:byt Tryz.prog 23=24:=by kernel_rfl
@[simp] theorem slE23:slE Tryz.prog 23=some 25:=by kernel_rfl
@[simp] theorem arE23:arE Tryz.prog 23=none:=by kernel_rfl
@[simp] theorem isIface23:aqr Tryz.prog 23=false:=by kernel_rfl
@[simp] theorem zer23:zer Tryz.prog 23=some [.slice none 0 0]:=by kernel_rfl
@[simp] theorem scal25:scal Tryz.prog 25=false:=by kernel_rfl
@[simp] theorem aggr25:aggr Tryz.prog 25=true:=by kernel_rfl
@[simp] theorem sz25:sz Tryz.prog 25=6:=by kernel_rfl
@[simp] theorem byt25:byt Tryz.prog 25=80:=by kernel_rfl
@[simp] theorem slE25:slE Tryz.prog 25=none:=by kernel_rfl
@[simp] theorem arE25:arE Tryz.prog 25=none:=by kernel_rfl
@[simp] theorem fld25_0:fld Tryz.prog 25 0=some (0,3):=by kernel_rfl
@[simp] theorem places25_0:bqd Tryz.prog 25 0=some (0,1):=by kernel_rfl
@[simp] theorem fld25_1:fld Tryz.prog 25 1=some (1,3):=by kernel_rfl
@[simp] theorem places25_1:bqd Tryz.prog 25 1=some (1,1):=by kernel_rfl
@[simp] theorem fld25_2:fld Tryz.prog 25 2=some (2,3):=by kernel_rfl
@[simp] theorem places25_2:bqd Tryz.prog 25 2=some (2,1):=by kernel_rfl
@[simp] theorem fld25_3:fld Tryz.prog 25 3=some (3,3):=by kernel_rfl
@[simp] theorem places25_3:bqd Tryz.prog 25 3=some (3,1):=by kernel_rfl
@[simp] theorem fld25_4:fld Tryz.prog 25 4=some (4,22):=by kernel_rfl
@[simp] theorem places25_4:bqd Tryz.prog 25 4=some (4,1):=by kernel_rfl
@[simp] theorem fld25_5:fld Tryz.prog 25 5=some (5,23):=by kernel_rfl
@[simp] theorem places25_5:bqd Tryz.prog 25 5=some (5,1):=by kernel_rfl
@[simp] theorem isIface25:aqr Tryz.prog 25=false:=by kernel_rfl
@[simp] theorem zer25:zer Tryz.prog 25=some [.int .i64 0,.int .i64 0,.int .i64 0,.int .i64 0,.slice none 0 0,.slice none 0 0]:=by kernel_rfl
@[simp] theorem scal26:scal Tryz.prog 26=true:=by kernel_rfl
@[simp] theorem sz26:sz Tryz.prog 26=1:=by kernel_rfl
@[simp] theorem byt26:byt Tryz.prog 26=24:=by kernel_rfl
@[simp] theorem slE26:slE Tryz.prog 26=some 3:=by kernel_rfl
@[simp] theorem arE26:arE Tryz.prog 26=none:=by kernel_rfl
@[simp] theorem isIface26:aqr Tryz.prog 26=false:=by kernel_rfl
@[simp] theorem zer26:zer Tryz.prog 26=some [.slice none 0 0]:=by kernel_rfl
@[simp] theorem scal31:scal Tryz.prog 31=true:=by kernel_rfl
@[simp] theorem sz31:sz Tryz.prog 31=1:=by kernel_rfl
@[simp] theorem byt31:byt Tryz.prog 31=8:=by kernel_rfl
@[simp] theorem slE31:slE Tryz.prog 31=none:=by kernel_rfl
@[simp] theorem arE31:arE Tryz.prog 31=none:=by kernel_rfl
@[simp] theorem intOf31:intOf? Tryz.prog 31=some .i64:=by kernel_rfl
@[simp] theorem und31:Tryz.prog.underlying 31=some (.int .i64):=by kernel_rfl
@[simp] theorem isIface31:aqr Tryz.prog 31=false:=by kernel_rfl
@[simp] theorem zer31:zer Tryz.prog 31=some [.int .i64 0]:=by kernel_rfl
@[simp] theorem scal32:scal Tryz.prog 32=true:=by kernel_rfl
@[simp] theorem sz32:sz Tryz.prog 32=1:=by kernel_rfl
@[simp] theorem byt32:byt Tryz.prog 32=0:=by kernel_rfl
@[simp] theorem slE32:slE Tryz.prog 32=none:=by kernel_rfl
@[simp] theorem arE32:arE Tryz.prog 32=none:=by kernel_rfl
@[simp] theorem isIface32:aqr Tryz.prog 32=false:=by kernel_rfl
@[simp] theorem scal40:scal Tryz.prog 40=true:=by kernel_rfl
@[simp] theorem sz40:sz Tryz.prog 40=1:=by kernel_rfl
@[simp] theorem byt40:byt Tryz.prog 40=0:=by kernel_rfl
@[simp] theorem slE40:slE Tryz.prog 40=none:=by kernel_rfl
@[simp] theorem arE40:arE Tryz.prog 40=none:=by kernel_rfl
@[simp] theorem isIface40:aqr Tryz.prog 40=false:=by kernel_rfl
@[simp] theorem scal48:scal Tryz.prog 48=true:=by kernel_rfl
@[simp] theorem sz48:sz Tryz.prog 48=1:=by kernel_rfl
@[simp] theorem byt48:byt Tryz.prog 48=8:=by kernel_rfl
@[simp] theorem slE48:slE Tryz.prog 48=none:=by kernel_rfl
@[simp] theorem arE48:arE Tryz.prog 48=none:=by kernel_rfl
@[simp] theorem isIface48:aqr Tryz.prog 48=false:=by kernel_rfl
@[simp] theorem zer48:zer Tryz.prog 48=some [.nilFunc]:=by kernel_rfl
@[simp] theorem scal49:scal Tryz.prog 49=true:=by kernel_rfl
@[simp] theorem sz49:sz Tryz.prog 49=1:=by kernel_rfl
@[simp] theorem byt49:byt Tryz.prog 49=0:=by kernel_rfl
@[simp] theorem slE49:slE Tryz.prog 49=none:=by kernel_rfl
@[simp] theorem arE49:arE Tryz.prog 49=none:=by kernel_rfl
@[simp] theorem isIface49:aqr Tryz.prog 49=false:=by kernel_rfl
@[simp] theorem scal54:scal Tryz.prog 54=true:=by kernel_rfl
@[simp] theorem sz54:sz Tryz.prog 54=1:=by kernel_rfl
@[simp] theorem byt54:byt Tryz.prog 54=24:=by kernel_rfl
@[simp] theorem slE54:slE Tryz.prog 54=some 55:=by kernel_rfl
@[simp] theorem arE54:arE Tryz.prog 54=none:=by kernel_rfl
@[simp] theorem isIface54:aqr Tryz.prog 54=false:=by kernel_rfl
@[simp] theorem zer54:zer Tryz.prog 54=some [.slice none 0 0]:=by kernel_rfl
@[simp] theorem scal55:scal Tryz.prog 55=false:=by kernel_rfl
@[simp] theorem aggr55:aggr Tryz.prog 55=true:=by kernel_rfl
@[simp] theorem sz55:sz Tryz.prog 55=2:=by kernel_rfl
@[simp] theorem byt55:byt Tryz.prog 55=16:=by kernel_rfl
@[simp] theorem slE55:slE Tryz.prog 55=none:=by kernel_rfl
@[simp] theorem arE55:arE Tryz.prog 55=some (2,3):=by kernel_rfl
@[simp] theorem places55_0:bqd Tryz.prog 55 0=some (0,1):=by kernel_rfl
@[simp] theorem places55_1:bqd Tryz.prog 55 1=some (1,1):=by kernel_rfl
@[simp] theorem isIface55:aqr Tryz.prog 55=false:=by kernel_rfl
@[simp] theorem zer55:zer Tryz.prog 55=some [.int .i64 0,.int .i64 0]:=by kernel_rfl
@[simp] theorem scal75:scal Tryz.prog 75=false:=by kernel_rfl
@[simp] theorem aggr75:aggr Tryz.prog 75=true:=by kernel_rfl
@[simp] theorem sz75:sz Tryz.prog 75=7:=by kernel_rfl
@[simp] theorem byt75:byt Tryz.prog 75=104:=by kernel_rfl
@[simp] theorem slE75:slE Tryz.prog 75=none:=by kernel_rfl
@[simp] theorem arE75:arE Tryz.prog 75=none:=by kernel_rfl
@[simp] theorem fld75_0:fld Tryz.prog 75 0=some (0,25):=by kernel_rfl
@[simp] theorem places75_0:bqd Tryz.prog 75 0=some (0,6):=by kernel_rfl
@[simp] theorem fld75_1:fld Tryz.prog 75 1=some (6,26):=by kernel_rfl
@[simp] theorem places75_1:bqd Tryz.prog 75 1=some (6,1):=by kernel_rfl
@[simp] theorem isIface75:aqr Tryz.prog 75=false:=by kernel_rfl
@[simp] theorem zer75:zer Tryz.prog 75=some [.int .i64 0,.int .i64 0,.int .i64 0,.int .i64 0,.slice none 0 0,.slice none 0 0,.slice none 0 0]:=by kernel_rfl
@[simp] theorem scal76:scal Tryz.prog 76=true:=by kernel_rfl
@[simp] theorem sz76:sz Tryz.prog 76=1:=by kernel_rfl
@[simp] theorem byt76:byt Tryz.prog 76=8:=by kernel_rfl
@[simp] theorem slE76:slE Tryz.prog 76=none:=by kernel_rfl
@[simp] theorem arE76:arE Tryz.prog 76=none:=by kernel_rfl
@[simp] theorem isIface76:aqr Tryz.prog 76=false:=by kernel_rfl
@[simp] theorem zer76:zer Tryz.prog 76=some [.nilFunc]:=by kernel_rfl
@[simp] theorem scal83:scal Tryz.prog 83=true:=by kernel_rfl
@[simp] theorem sz83:sz Tryz.prog 83=1:=by kernel_rfl
@[simp] theorem byt83:byt Tryz.prog 83=8:=by kernel_rfl
@[simp] theorem slE83:slE Tryz.prog 83=none:=by kernel_rfl
@[simp] theorem arE83:arE Tryz.prog 83=none:=by kernel_rfl
@[simp] theorem und83:Tryz.prog.underlying 83=some (.pointer 85):=by kernel_rfl
@[simp] theorem isIface83:aqr Tryz.prog 83=false:=by kernel_rfl
@[simp] theorem zer83:zer Tryz.prog 83=some [.pointer none]:=by kernel_rfl
@[simp] theorem scal85:scal Tryz.prog 85=false:=by kernel_rfl
@[simp] theorem aggr85:aggr Tryz.prog 85=true:=by kernel_rfl
@[simp] theorem sz85:sz Tryz.prog 85=13:=by kernel_rfl
@[simp] theorem byt85:byt Tryz.prog 85=184:=by kernel_rfl
@[simp] theorem slE85:slE Tryz.prog 85=none:=by kernel_rfl
@[simp] theorem arE85:arE Tryz.prog 85=none:=by kernel_rfl
@[simp] theorem fld85_0:fld Tryz.prog 85 0=some (0,25):=by kernel_rfl
@[simp] theorem places85_0:bqd Tryz.prog 85 0=some (0,6):=by kernel_rfl
@[simp] theorem fld85_1:fld Tryz.prog 85 1=some (6,25):=by kernel_rfl
@[simp] theorem places85_1:bqd Tryz.prog 85 1=some (6,6):=by kernel_rfl
@[simp] theorem fld85_2:fld Tryz.prog 85 2=some (12,26):=by kernel_rfl
@[simp] theorem places85_2:bqd Tryz.prog 85 2=some (12,1):=by kernel_rfl
@[simp] theorem isIface85:aqr Tryz.prog 85=false:=by kernel_rfl
@[simp] theorem zer85:zer Tryz.prog 85=some [.int .i64 0,.int .i64 0,.int .i64 0,.int .i64 0,.slice none 0 0,.slice none 0 0,.int .i64 0,.int .i64 0,.int .i64 0,.int .i64 0,.slice none 0 0,.slice none 0 0,.slice none 0 0]:=by kernel_rfl
@[simp] theorem scal103:scal Tryz.prog 103=true:=by kernel_rfl
@[simp] theorem sz103:sz Tryz.prog 103=1:=by kernel_rfl
@[simp] theorem byt103:byt Tryz.prog 103=8:=by kernel_rfl
@[simp] theorem slE103:slE Tryz.prog 103=none:=by kernel_rfl
@[simp] theorem arE103:arE Tryz.prog 103=none:=by kernel_rfl
@[simp] theorem intOf103:intOf? Tryz.prog 103=some .u64:=by kernel_rfl
@[simp] theorem und103:Tryz.prog.underlying 103=some (.int .u64):=by kernel_rfl
@[simp] theorem isIface103:aqr Tryz.prog 103=false:=by kernel_rfl
@[simp] theorem zer103:zer Tryz.prog 103=some [.int .u64 0]:=by kernel_rfl
@[simp] theorem scal111:scal Tryz.prog 111=true:=by kernel_rfl
@[simp] theorem sz111:sz Tryz.prog 111=1:=by kernel_rfl
@[simp] theorem byt111:byt Tryz.prog 111=16:=by kernel_rfl
@[simp] theorem slE111:slE Tryz.prog 111=none:=by kernel_rfl
@[simp] theorem arE111:arE Tryz.prog 111=none:=by kernel_rfl
@[simp] theorem isIface111:aqr Tryz.prog 111=true:=by kernel_rfl
@[simp] theorem zer111:zer Tryz.prog 111=some [.nilIface]:=by kernel_rfl
@[simp] theorem scal112:scal Tryz.prog 112=true:=by kernel_rfl
@[simp] theorem sz112:sz Tryz.prog 112=1:=by kernel_rfl
@[simp] theorem byt112:byt Tryz.prog 112=8:=by kernel_rfl
@[simp] theorem slE112:slE Tryz.prog 112=none:=by kernel_rfl
@[simp] theorem arE112:arE Tryz.prog 112=none:=by kernel_rfl
@[simp] theorem intOf112:intOf? Tryz.prog 112=some .i64:=by kernel_rfl
@[simp] theorem und112:Tryz.prog.underlying 112=some (.int .i64):=by kernel_rfl
@[simp] theorem isIface112:aqr Tryz.prog 112=false:=by kernel_rfl
@[simp] theorem zer112:zer Tryz.prog 112=some [.int .i64 0]:=by kernel_rfl
@[simp] theorem scal116:scal Tryz.prog 116=true:=by kernel_rfl
@[simp] theorem sz116:sz Tryz.prog 116=1:=by kernel_rfl
@[simp] theorem byt116:byt Tryz.prog 116=8:=by kernel_rfl
@[simp] theorem slE116:slE Tryz.prog 116=none:=by kernel_rfl
@[simp] theorem arE116:arE Tryz.prog 116=none:=by kernel_rfl
@[simp] theorem und116:Tryz.prog.underlying 116=some (.pointer 112):=by kernel_rfl
@[simp] theorem isIface116:aqr Tryz.prog 116=false:=by kernel_rfl
@[simp] theorem zer116:zer Tryz.prog 116=some [.pointer none]:=by kernel_rfl
@[simp] theorem scal119:scal Tryz.prog 119=true:=by kernel_rfl
@[simp] theorem sz119:sz Tryz.prog 119=1:=by kernel_rfl
@[simp] theorem byt119:byt Tryz.prog 119=8:=by kernel_rfl
@[simp] theorem slE119:slE Tryz.prog 119=none:=by kernel_rfl
@[simp] theorem arE119:arE Tryz.prog 119=none:=by kernel_rfl
@[simp] theorem intOf119:intOf? Tryz.prog 119=some .i64:=by kernel_rfl
@[simp] theorem und119:Tryz.prog.underlying 119=some (.int .i64):=by kernel_rfl
@[simp] theorem isIface119:aqr Tryz.prog 119=false:=by kernel_rfl
@[simp] theorem zer119:zer Tryz.prog 119=some [.int .i64 0]:=by kernel_rfl
@[simp] theorem scal120:scal Tryz.prog 120=true:=by kernel_rfl
@[simp] theorem sz120:sz Tryz.prog 120=1:=by kernel_rfl
@[simp] theorem byt120:byt Tryz.prog 120=0:=by kernel_rfl
@[simp] theorem slE120:slE Tryz.prog 120=none:=by kernel_rfl
@[simp] theorem arE120:arE Tryz.prog 120=none:=by kernel_rfl
@[simp] theorem isIface120:aqr Tryz.prog 120=false:=by kernel_rfl
@[simp] theorem scal124:scal Tryz.prog 124=true:=by kernel_rfl
@[simp] theorem sz124:sz Tryz.prog 124=1:=by kernel_rfl
@[simp] theorem byt124:byt Tryz.prog 124=0:=by kernel_rfl
@[simp] theorem slE124:slE Tryz.prog 124=none:=by kernel_rfl
@[simp] theorem arE124:arE Tryz.prog 124=none:=by kernel_rfl
@[simp] theorem isIface124:aqr Tryz.prog 124=false:=by kernel_rfl
@[simp] theorem scal127:scal Tryz.prog 127=true:=by kernel_rfl
@[simp] theorem sz127:sz Tryz.prog 127=1:=by kernel_rfl
@[simp] theorem byt127:byt Tryz.prog 127=4:=by kernel_rfl
@[simp] theorem slE127:slE Tryz.prog 127=none:=by kernel_rfl
@[simp] theorem arE127:arE Tryz.prog 127=none:=by kernel_rfl
@[simp] theorem intOf127:intOf? Tryz.prog 127=some .u32:=by kernel_rfl
@[simp] theorem und127:Tryz.prog.underlying 127=some (.int .u32):=by kernel_rfl
@[simp] theorem isIface127:aqr Tryz.prog 127=false:=by kernel_rfl
@[simp] theorem zer127:zer Tryz.prog 127=some [.int .u32 0]:=by kernel_rfl
@[simp] theorem scal129:scal Tryz.prog 129=true:=by kernel_rfl
@[simp] theorem sz129:sz Tryz.prog 129=1:=by kernel_rfl
@[simp] theorem byt129:byt Tryz.prog 129=8:=by kernel_rfl
@[simp] theorem slE129:slE Tryz.prog 129=none:=by kernel_rfl
@[simp] theorem arE129:arE Tryz.prog 129=none:=by kernel_rfl
@[simp] theorem intOf129:intOf? Tryz.prog 129=some .u64:=by kernel_rfl
@[simp] theorem und129:Tryz.prog.underlying 129=some (.int .u64):=by kernel_rfl
@[simp] theorem isIface129:aqr Tryz.prog 129=false:=by kernel_rfl
@[simp] theorem zer129:zer Tryz.prog 129=some [.int .u64 0]:=by kernel_rfl
@[simp] theorem scal140:scal Tryz.prog 140=false:=by kernel_rfl
@[simp] theorem aggr140:aggr Tryz.prog 140=true:=by kernel_rfl
@[simp] theorem sz140:sz Tryz.prog 140=2:=by kernel_rfl
@[simp] theorem byt140:byt Tryz.prog 140=24:=by kernel_rfl
@[simp] theorem slE140:slE Tryz.prog 140=none:=by kernel_rfl
@[simp] theorem arE140:arE Tryz.prog 140=none:=by kernel_rfl
@[simp] theorem fld140_0:fld Tryz.prog 140 0=some (0,3):=by kernel_rfl
@[simp] theorem places140_0:bqd Tryz.prog 140 0=some (0,1):=by kernel_rfl
@[simp] theorem fld140_1:fld Tryz.prog 140 1=some (1,111):=by kernel_rfl
@[simp] theorem places140_1:bqd Tryz.prog 140 1=some (1,1):=by kernel_rfl
@[simp] theorem isIface140:aqr Tryz.prog 140=false:=by kernel_rfl
@[simp] theorem zer140:zer Tryz.prog 140=some [.int .i64 0,.nilIface]:=by kernel_rfl
@[simp] theorem scal157:scal Tryz.prog 157=true:=by kernel_rfl
@[simp] theorem sz157:sz Tryz.prog 157=1:=by kernel_rfl
@[simp] theorem byt157:byt Tryz.prog 157=0:=by kernel_rfl
@[simp] theorem slE157:slE Tryz.prog 157=none:=by kernel_rfl
@[simp] theorem arE157:arE Tryz.prog 157=none:=by kernel_rfl
@[simp] theorem isIface157:aqr Tryz.prog 157=false:=by kernel_rfl
@[simp] theorem scal159:scal Tryz.prog 159=true:=by kernel_rfl
@[simp] theorem sz159:sz Tryz.prog 159=1:=by kernel_rfl
@[simp] theorem byt159:byt Tryz.prog 159=8:=by kernel_rfl
@[simp] theorem slE159:slE Tryz.prog 159=none:=by kernel_rfl
@[simp] theorem arE159:arE Tryz.prog 159=none:=by kernel_rfl
@[simp] theorem intOf159:intOf? Tryz.prog 159=some .u64:=by kernel_rfl
@[simp] theorem und159:Tryz.prog.underlying 159=some (.int .u64):=by kernel_rfl
@[simp] theorem isIface159:aqr Tryz.prog 159=false:=by kernel_rfl
@[simp] theorem zer159:zer Tryz.prog 159=some [.int .u64 0]:=by kernel_rfl
@[simp] theorem scal163:scal Tryz.prog 163=true:=by kernel_rfl
@[simp] theorem sz163:sz Tryz.prog 163=1:=by kernel_rfl
@[simp] theorem byt163:byt Tryz.prog 163=8:=by kernel_rfl
@[simp] theorem slE163:slE Tryz.prog 163=none:=by kernel_rfl
@[simp] theorem arE163:arE Tryz.prog 163=none:=by kernel_rfl
@[simp] theorem und163:Tryz.prog.underlying 163=some (.pointer 3):=by kernel_rfl
@[simp] theorem isIface163:aqr Tryz.prog 163=false:=by kernel_rfl
@[simp] theorem zer163:zer Tryz.prog 163=some [.pointer none]:=by kernel_rfl
@[simp] theorem scal184:scal Tryz.prog 184=true:=by kernel_rfl
@[simp] theorem sz184:sz Tryz.prog 184=1:=by kernel_rfl
@[simp] theorem byt184:byt Tryz.prog 184=8:=by kernel_rfl
@[simp] theorem slE184:slE Tryz.prog 184=none:=by kernel_rfl
@[simp] theorem arE184:arE Tryz.prog 184=none:=by kernel_rfl
@[simp] theorem und184:Tryz.prog.underlying 184=some (.pointer 187):=by kernel_rfl
@[simp] theorem isIface184:aqr Tryz.prog 184=false:=by kernel_rfl
@[simp] theorem zer184:zer Tryz.prog 184=some [.pointer none]:=by kernel_rfl
@[simp] theorem scal187:scal Tryz.prog 187=false:=by kernel_rfl
@[simp] theorem aggr187:aggr Tryz.prog 187=true:=by kernel_rfl
@[simp] theorem sz187:sz Tryz.prog 187=2:=by kernel_rfl
@[simp] theorem byt187:byt Tryz.prog 187=32:=by kernel_rfl
@[simp] theorem slE187:slE Tryz.prog 187=none:=by kernel_rfl
@[simp] theorem arE187:arE Tryz.prog 187=none:=by kernel_rfl
@[simp] theorem fld187_0:fld Tryz.prog 187 0=some (0,26):=by kernel_rfl
@[simp] theorem places187_0:bqd Tryz.prog 187 0=some (0,1):=by kernel_rfl
@[simp] theorem fld187_1:fld Tryz.prog 187 1=some (1,3):=by kernel_rfl
@[simp] theorem places187_1:bqd Tryz.prog 187 1=some (1,1):=by kernel_rfl
@[simp] theorem isIface187:aqr Tryz.prog 187=false:=by kernel_rfl
@[simp] theorem zer187:zer Tryz.prog 187=some [.slice none 0 0,.int .i64 0]:=by kernel_rfl
@[simp] theorem scal188:scal Tryz.prog 188=true:=by kernel_rfl
@[simp] theorem sz188:sz Tryz.prog 188=1:=by kernel_rfl
@[simp] theorem byt188:byt Tryz.prog 188=8:=by kernel_rfl
@[simp] theorem slE188:slE Tryz.prog 188=none:=by kernel_rfl
@[simp] theorem arE188:arE Tryz.prog 188=none:=by kernel_rfl
@[simp] theorem und188:Tryz.prog.underlying 188=some (.pointer 192):=by kernel_rfl
@[simp] theorem isIface188:aqr Tryz.prog 188=false:=by kernel_rfl
@[simp] theorem zer188:zer Tryz.prog 188=some [.pointer none]:=by kernel_rfl
@[simp] theorem scal190:scal Tryz.prog 190=true:=by kernel_rfl
@[simp] theorem sz190:sz Tryz.prog 190=1:=by kernel_rfl
@[simp] theorem byt190:byt Tryz.prog 190=24:=by kernel_rfl
@[simp] theorem slE190:slE Tryz.prog 190=some 4:=by kernel_rfl
@[simp] theorem arE190:arE Tryz.prog 190=none:=by kernel_rfl
@[simp] theorem isIface190:aqr Tryz.prog 190=false:=by kernel_rfl
@[simp] theorem zer190:zer Tryz.prog 190=some [.slice none 0 0]:=by kernel_rfl
@[simp] theorem scal192:scal Tryz.prog 192=false:=by kernel_rfl
@[simp] theorem aggr192:aggr Tryz.prog 192=true:=by kernel_rfl
@[simp] theorem sz192:sz Tryz.prog 192=4:=by kernel_rfl
@[simp] theorem byt192:byt Tryz.prog 192=96:=by kernel_rfl
@[simp] theorem slE192:slE Tryz.prog 192=none:=by kernel_rfl
@[simp] theorem arE192:arE Tryz.prog 192=none:=by kernel_rfl
@[simp] theorem fld192_0:fld Tryz.prog 192 0=some (0,22):=by kernel_rfl
@[simp] theorem places192_0:bqd Tryz.prog 192 0=some (0,1):=by kernel_rfl
@[simp] theorem fld192_1:fld Tryz.prog 192 1=some (1,26):=by kernel_rfl
@[simp] theorem places192_1:bqd Tryz.prog 192 1=some (1,1):=by kernel_rfl
@[simp] theorem fld192_2:fld Tryz.prog 192 2=some (2,26):=by kernel_rfl
@[simp] theorem places192_2:bqd Tryz.prog 192 2=some (2,1):=by kernel_rfl
@[simp] theorem fld192_3:fld Tryz.prog 192 3=some (3,190):=by kernel_rfl
@[simp] theorem places192_3:bqd Tryz.prog 192 3=some (3,1):=by kernel_rfl
@[simp] theorem isIface192:aqr Tryz.prog 192=false:=by kernel_rfl
@[simp] theorem zer192:zer Tryz.prog 192=some [.slice none 0 0,.slice none 0 0,.slice none 0 0,.slice none 0 0]:=by kernel_rfl
@[simp] theorem scal194:scal Tryz.prog 194=true:=by kernel_rfl
@[simp] theorem sz194:sz Tryz.prog 194=1:=by kernel_rfl
@[simp] theorem byt194:byt Tryz.prog 194=8:=by kernel_rfl
@[simp] theorem slE194:slE Tryz.prog 194=none:=by kernel_rfl
@[simp] theorem arE194:arE Tryz.prog 194=none:=by kernel_rfl
@[simp] theorem und194:Tryz.prog.underlying 194=some (.pointer 159):=by kernel_rfl
@[simp] theorem isIface194:aqr Tryz.prog 194=false:=by kernel_rfl
@[simp] theorem zer194:zer Tryz.prog 194=some [.pointer none]:=by kernel_rfl
@[simp] theorem scal195:scal Tryz.prog 195=true:=by kernel_rfl
@[simp] theorem sz195:sz Tryz.prog 195=1:=by kernel_rfl
@[simp] theorem byt195:byt Tryz.prog 195=0:=by kernel_rfl
@[simp] theorem slE195:slE Tryz.prog 195=none:=by kernel_rfl
@[simp] theorem arE195:arE Tryz.prog 195=none:=by kernel_rfl
@[simp] theorem isIface195:aqr Tryz.prog 195=false:=by kernel_rfl
@[simp] theorem scal197:scal Tryz.prog 197=true:=by kernel_rfl
@[simp] theorem sz197:sz Tryz.prog 197=1:=by kernel_rfl
@[simp] theorem byt197:byt Tryz.prog 197=0:=by kernel_rfl
@[simp] theorem slE197:slE Tryz.prog 197=none:=by kernel_rfl
@[simp] theorem arE197:arE Tryz.prog 197=none:=by kernel_rfl
@[simp] theorem isIface197:aqr Tryz.prog 197=false:=by kernel_rfl
@[simp] theorem scal201:scal Tryz.prog 201=true:=by kernel_rfl
@[simp] theorem sz201:sz Tryz.prog 201=1:=by kernel_rfl
@[simp] theorem byt201:byt Tryz.prog 201=0:=by kernel_rfl
@[simp] theorem slE201:slE Tryz.prog 201=none:=by kernel_rfl
@[simp] theorem arE201:arE Tryz.prog 201=none:=by kernel_rfl
@[simp] theorem isIface201:aqr Tryz.prog 201=false:=by kernel_rfl
@[simp] theorem scal204:scal Tryz.prog 204=true:=by kernel_rfl
@[simp] theorem sz204:sz Tryz.prog 204=1:=by kernel_rfl
@[simp] theorem byt204:byt Tryz.prog 204=8:=by kernel_rfl
@[simp] theorem slE204:slE Tryz.prog 204=none:=by kernel_rfl
@[simp] theorem arE204:arE Tryz.prog 204=none:=by kernel_rfl
@[simp] theorem und204:Tryz.prog.underlying 204=some (.pointer 219):=by kernel_rfl
@[simp] theorem isIface204:aqr Tryz.prog 204=false:=by kernel_rfl
@[simp] theorem zer204:zer Tryz.prog 204=some [.pointer none]:=by kernel_rfl
@[simp] theorem scal205:scal Tryz.prog 205=true:=by kernel_rfl
@[simp] theorem sz205:sz Tryz.prog 205=1:=by kernel_rfl
@[simp] theorem byt205:byt Tryz.prog 205=0:=by kernel_rfl
@[simp] theorem slE205:slE Tryz.prog 205=none:=by kernel_rfl
@[simp] theorem arE205:arE Tryz.prog 205=none:=by kernel_rfl
@[simp] theorem isIface205:aqr Tryz.prog 205=false:=by kernel_rfl
@[simp] theorem scal207:scal Tryz.prog 207=true:=by kernel_rfl
@[simp] theorem sz207:sz Tryz.prog 207=1:=by kernel_rfl
@[simp] theorem byt207:byt Tryz.prog 207=0:=by kernel_rfl
@[simp] theorem slE207:slE Tryz.prog 207=none:=by kernel_rfl
@[simp] theorem arE207:arE Tryz.prog 207=none:=by kernel_rfl
@[simp] theorem isIface207:aqr Tryz.prog 207=false:=by kernel_rfl
@[simp] theorem scal210:scal Tryz.prog 210=true:=by kernel_rfl
@[simp] theorem sz210:sz Tryz.prog 210=1:=by kernel_rfl
@[simp] theorem byt210:byt Tryz.prog 210=0:=by kernel_rfl
@[simp] theorem slE210:slE Tryz.prog 210=none:=by kernel_rfl
@[simp] theorem arE210:arE Tryz.prog 210=none:=by kernel_rfl
@[simp] theorem isIface210:aqr Tryz.prog 210=false:=by kernel_rfl
@[simp] theorem scal212:scal Tryz.prog 212=true:=by kernel_rfl
@[simp] theorem sz212:sz Tryz.prog 212=1:=by kernel_rfl
@[simp] theorem byt212:byt Tryz.prog 212=0:=by kernel_rfl
@[simp] theorem slE212:slE Tryz.prog 212=none:=by kernel_rfl
@[simp] theorem arE212:arE Tryz.prog 212=none:=by kernel_rfl
@[simp] theorem isIface212:aqr Tryz.prog 212=false:=by kernel_rfl
@[simp] theorem scal214:scal Tryz.prog 214=false:=by kernel_rfl
@[simp] theorem aggr214:aggr Tryz.prog 214=true:=by kernel_rfl
@[simp] theorem sz214:sz Tryz.prog 214=4:=by kernel_rfl
@[simp] theorem byt214:byt Tryz.prog 214=32:=by kernel_rfl
@[simp] theorem slE214:slE Tryz.prog 214=none:=by kernel_rfl
@[simp] theorem arE214:arE Tryz.prog 214=some (4,3):=by kernel_rfl
@[simp] theorem places214_0:bqd Tryz.prog 214 0=some (0,1):=by kernel_rfl
@[simp] theorem places214_1:bqd Tryz.prog 214 1=some (1,1):=by kernel_rfl
@[simp] theorem places214_2:bqd Tryz.prog 214 2=some (2,1):=by kernel_rfl
@[simp] theorem places214_3:bqd Tryz.prog 214 3=some (3,1):=by kernel_rfl
@[simp] theorem isIface214:aqr Tryz.prog 214=false:=by kernel_rfl
@[simp] theorem zer214:zer Tryz.prog 214=some [.int .i64 0,.int .i64 0,.int .i64 0,.int .i64 0]:=by kernel_rfl
@[simp] theorem scal217:scal Tryz.prog 217=true:=by kernel_rfl
@[simp] theorem sz217:sz Tryz.prog 217=1:=by kernel_rfl
@[simp] theorem byt217:byt Tryz.prog 217=24:=by kernel_rfl
@[simp] theorem slE217:slE Tryz.prog 217=some 225:=by kernel_rfl
@[simp] theorem arE217:arE Tryz.prog 217=none:=by kernel_rfl
@[simp] theorem isIface217:aqr Tryz.prog 217=false:=by kernel_rfl
@[simp] theorem zer217:zer Tryz.prog 217=some [.slice none 0 0]:=by kernel_rfl
@[simp] theorem scal219:scal Tryz.prog 219=false:=by kernel_rfl
@[simp] theorem aggr219:aggr Tryz.prog 219=true:=by kernel_rfl
@[simp] theorem sz219:sz Tryz.prog 219=2:=by kernel_rfl
@[simp] theorem byt219:byt Tryz.prog 219=32:=by kernel_rfl
@[simp] theorem slE219:slE Tryz.prog 219=none:=by kernel_rfl
@[simp] theorem arE219:arE Tryz.prog 219=none:=by kernel_rfl
@[simp] theorem fld219_0:fld Tryz.prog 219 0=some (0,3):=by kernel_rfl
@[simp] theorem places219_0:bqd Tryz.prog 219 0=some (0,1):=by kernel_rfl
@[simp] theorem fld219_1:fld Tryz.prog 219 1=some (1,217):=by kernel_rfl
@[simp] theorem places219_1:bqd Tryz.prog 219 1=some (1,1):=by kernel_rfl
@[simp] theorem isIface219:aqr Tryz.prog 219=false:=by kernel_rfl
@[simp] theorem zer219:zer Tryz.prog 219=some [.int .i64 0,.slice none 0 0]:=by kernel_rfl
@[simp] theorem scal221:scal Tryz.prog 221=true:=by kernel_rfl
@[simp] theorem sz221:sz Tryz.prog 221=1:=by kernel_rfl
@[simp] theorem byt221:byt Tryz.prog 221=8:=by kernel_rfl
@[simp] theorem slE221:slE Tryz.prog 221=none:=by kernel_rfl
@[simp] theorem arE221:arE Tryz.prog 221=none:=by kernel_rfl
@[simp] theorem mapIB221:mapIB Tryz.prog 221=true:=by kernel_rfl
@[simp] theorem mapB221:mapB Tryz.prog 221=true:=by kernel_rfl
@[simp] theorem isIface221:aqr Tryz.prog 221=false:=by kernel_rfl
@[simp] theorem zer221:zer Tryz.prog 221=some [.map none]:=by kernel_rfl
@[simp] theorem scal222:scal Tryz.prog 222=true:=by kernel_rfl
@[simp] theorem sz222:sz Tryz.prog 222=1:=by kernel_rfl
@[simp] theorem byt222:byt Tryz.prog 222=0:=by kernel_rfl
@[simp] theorem slE222:slE Tryz.prog 222=none:=by kernel_rfl
@[simp] theorem arE222:arE Tryz.prog 222=none:=by kernel_rfl
@[simp] theorem isIface222:aqr Tryz.prog 222=false:=by kernel_rfl
@[simp] theorem scal225:scal Tryz.prog 225=false:=by kernel_rfl
@[simp] theorem aggr225:aggr Tryz.prog 225=true:=by kernel_rfl
@[simp] theorem sz225:sz Tryz.prog 225=3:=by kernel_rfl
@[simp] theorem byt225:byt Tryz.prog 225=40:=by kernel_rfl
@[simp] theorem slE225:slE Tryz.prog 225=none:=by kernel_rfl
@[simp] theorem arE225:arE Tryz.prog 225=none:=by kernel_rfl
@[simp] theorem fld225_0:fld Tryz.prog 225 0=some (0,3):=by kernel_rfl
@[simp] theorem places225_0:bqd Tryz.prog 225 0=some (0,1):=by kernel_rfl
@[simp] theorem fld225_1:fld Tryz.prog 225 1=some (1,26):=by kernel_rfl
@[simp] theorem places225_1:bqd Tryz.prog 225 1=some (1,1):=by kernel_rfl
@[simp] theorem fld225_2:fld Tryz.prog 225 2=some (2,221):=by kernel_rfl
@[simp] theorem places225_2:bqd Tryz.prog 225 2=some (2,1):=by kernel_rfl
@[simp] theorem isIface225:aqr Tryz.prog 225=false:=by kernel_rfl
@[simp] theorem zer225:zer Tryz.prog 225=some [.int .i64 0,.slice none 0 0,.map none]:=by kernel_rfl
theorem mixed:Tryz.prog.follows .mixedOrders=true:=by kernel_rfl
end Go.Am
namespace Go.Am
open Go Go.Proofs
set_option linter.unusedVariables false
set_option linter.unusedSimpArgs false
variable {w0:World}
attribute [local irreducible] AWP aqo
def aqw:Int->List Int->Bool
 | _,[]=>true
 | last,x::l=>decide (last<x)&&decide (x<=1099511627776)&&aqw x l
theorem may_ok (l:List Int) (H:Heap) (K:AV->Heap->Prop) (hl:l.length<=4611686018427387904) (k:K (B (aqw (-1) l)) H):aqo Tryz.prog w0 70 [ints l] H K:=by
 refine aqf Tryz.func70 rfl Tryz.ntmps70 (ts:=[2]) rfl (by simp) (by kernel_rfl) ?_
 repeat'(with_reducible first|(refine aqd (hK _ _ ?_);clear hK K)|refine vr [] fun K hK=>?_|(refine aqa fun K' hK'=>?_;simp[ints];repeat'(first|(apply hK';clear hK' K')|fail))|refine sp ?_|fail)
 refine aqi (fun env h=>∃ (k:Nat) (last:Int),k<=l.length/\env 8=I k/\env 7=I l.length/\env 6=ints l/\env 3=I last/\aqw (-1) l=aqw last (l.drop k)/\h=H) (fun env _=>l.length-natA (env 8)) ?_ ?_
 ·exact ⟨0,-1,by simp [ints,gqs]⟩
 rintro env h ⟨n,last,hn,h8,h7,h6,h3,hr,rfl⟩
 have hnat:natA (env 8)=n:=by simp [h8]
 rw [hnat];clear hnat
 by_cases hlt:n<l.length
 ·rw [List.drop_eq_getElem_cons hlt,aqw] at hr
  repeat'(with_reducible first|(refine aqd (hK _ _ ?_);clear hK K)|refine vr [] fun K hK=>?_|((first|refine aqa fun K' hK'=>?_|(apply aqk;refine aqe rfl fun K' hK'=>?_));simp[h8,h7,h6,h3,ints,hlt];repeat'(first|(apply hK';clear hK' K')|refine And.intro ?_ ?_|intro hg|(clear hK' K';omega)))|(with_reducible refine aqb fun A B hA hB=>?_;simp[h8,h7,h6,h3,ints,hlt];repeat'(with_reducible first|(apply hA;clear hA hB A B)|(apply hB;clear hA hB A B)|refine And.intro ?_ ?_|intro hc))|apply aqc|refine sp ?_|fail)
  ·rw [decide_eq_true hg,decide_eq_false (by omega)] at hr
   simp at hr
   rw [hr] at k
   simpa using k
  ·rw [decide_eq_true hg,decide_eq_true hc] at hr
   refine ⟨⟨n+1,l[n],?_⟩,?_⟩
   ·simp [h7,h6,ints,hr];omega
   ·simp;omega
  ·have hd:decide (last<l[n])=false:=by simpa using hg
   rw [hd] at hr
   simp at hr
   rw [hr] at k
   simpa using k
 ·have:n=l.length:=by omega
  subst this
  repeat'(with_reducible first|(refine aqd (hK _ _ ?_);clear hK K)|refine vr [] fun K hK=>?_|(refine aqa fun K' hK'=>?_;simp[h8,h7,h6,h3,ints];repeat'(first|(apply hK';clear hK' K')|fail))|(with_reducible refine aqb fun A B hA hB=>?_;simp[h8,h7,h6,h3,ints];repeat'(with_reducible first|(apply hA;clear hA hB A B)|(apply hB;clear hA hB A B)|refine And.intro ?_ ?_|intro hc))|apply aqc|refine sp ?_|fail)
  simp [aqw] at hr
  simp
  rw [hr] at k
  exact k
end Go.Am
namespace Go.Am
open Go Go.Proofs
set_option linter.unusedVariables false
set_option linter.unusedSimpArgs false
variable {w0:World}
attribute [local irreducible] AWP aqo
attribute [local congr] aqp
abbrev aqz {α:Type} (l:List α):Prop:=l.length<=4611686018427387904
theorem dqj {l:List Int} (hl:aqz l):Ret Tryz.prog w0 70 [ints l] (B (aqw (-1) l)):=
 fun H=>may_ok l H _ hl ⟨rfl,.refl _⟩
theorem same_ret {a b:List Int} (ha:aqz a) (hb:aqz b):Ret Tryz.prog w0 26 [ints a,ints b] (B (decide (a=b))):=by
 intro H
 refine aqf Tryz.func26 rfl Tryz.ntmps26 (ts:=[4]) rfl (by simp) (by kernel_rfl) ?_
 repeat'(with_reducible first|(refine sp (hK _ _ ?_);clear hK K)|refine vr [] fun K hK=>?_|(refine aqa fun K' hK'=>?_;simp[ints];repeat'(first|(apply hK';clear hK' K')|fail))|(with_reducible refine aqb fun A B hA hB=>?_;simp[ints];repeat'(with_reducible first|(apply hA;clear hA hB A B)|(apply hB;clear hA hB A B)|refine And.intro ?_ ?_|intro hc))|apply aqc|refine sp ?_|fail)
 ·have:a≠b:=fun e=>by subst e;simp at hc
  simp [this]
 refine aqi (fun env h=>∃ (k:Nat),k<=a.length/\a.length=b.length/\env 5=I k/\env 0=ints a/\env 1=ints b/\a.take k=b.take k/\h=H) (fun env _=>a.length-natA (env 5)) ?_ ?_
 ·exact ⟨0,by simp [ints,gqs];omega⟩
 rintro env h ⟨n,hn,hab,h5,h0,h1,ht,rfl⟩
 have hnat:natA (env 5)=n:=by simp [h5]
 rw [hnat];clear hnat
 by_cases hlt:n<a.length
 ·have hltb:n<b.length:=by omega
  repeat'(with_reducible first|(refine sp (hK _ _ ?_);clear hK K)|refine vr [] fun K hK=>?_|(refine vd [] [] mixed fun K hK=>?_)|((first|refine aqa fun K' hK'=>?_|refine aqn fun K' hK'=>?_);simp[h5,h0,h1,ints,hlt,hltb];repeat'(first|(apply hK';clear hK' K')|refine And.intro ?_ ?_|(clear hK' K';omega)))|(with_reducible refine aqb fun A B hA hB=>?_;simp[h5,h0,h1,ints,hlt,hltb];repeat'(with_reducible first|(apply hA;clear hA hB A B)|(apply hB;clear hA hB A B)|refine And.intro ?_ ?_|intro hc))|apply aqc|refine sp ?_|fail)
  ·have:a≠b:=fun e=>by subst e;simp at hc
   simp [this]
  ·refine ⟨⟨n+1,?_⟩,?_⟩
   ·have hc':a[n]=b[n]:=by simpa using hc
    have ht':a.take (n+1)=b.take (n+1):=by rw [List.take_add_one,List.take_add_one,ht];simp [hlt,hltb,hc']
    simp [h0,h1,ints,ht',hab];omega
   ·simp;omega
 ·have:n=a.length:=by omega
  subst this
  repeat'(with_reducible first|(refine sp (hK _ _ ?_);clear hK K)|refine vr [] fun K hK=>?_|(refine aqa fun K' hK'=>?_;simp[h5,h0,h1,ints];repeat'(first|(apply hK';clear hK' K')|fail))|(with_reducible refine aqb fun A B hA hB=>?_;simp[h5,h0,h1,ints];repeat'(with_reducible first|(apply hA;clear hA hB A B)|(apply hB;clear hA hB A B)|refine And.intro ?_ ?_|intro hc))|apply aqc|refine sp ?_|fail)
  have:a=b:=by rw [List.take_of_length_le (Nat.le_refl _),List.take_of_length_le (by omega)] at ht;exact ht
  simp [this]
theorem in_ret {l:List Int} {x:Int} (hl:aqz l):Ret Tryz.prog w0 79 [ints l,I x] (B (decide (x∈l))):=by
 intro H
 refine aqf Tryz.func79 rfl Tryz.ntmps79 (ts:=[4]) rfl (by simp) (by kernel_rfl) ?_
 repeat'(with_reducible first|(refine aqd (hK _ _ ?_);clear hK K)|refine vr [] fun K hK=>?_|(refine aqa fun K' hK'=>?_;simp[ints];repeat'(first|(apply hK';clear hK' K')|fail))|refine sp ?_|fail)
 refine aqi (fun env h=>∃ (k:Nat),k<=l.length/\env 5=I k/\env 0=ints l/\env 1=I x/\x∉l.take k/\h=H) (fun env _=>l.length-natA (env 5)) ?_ ?_
 ·exact ⟨0,by simp [ints,gqs]⟩
 rintro env h ⟨n,hn,h5,h0,h1,ht,rfl⟩
 have hnat:natA (env 5)=n:=by simp [h5]
 rw [hnat];clear hnat
 by_cases hlt:n<l.length
 ·repeat'(with_reducible first|(refine aqd (hK _ _ ?_);clear hK K)|refine vr [] fun K hK=>?_|(refine aqa fun K' hK'=>?_;simp[h5,h0,h1,ints,hlt];repeat'(first|(apply hK';clear hK' K')|refine And.intro ?_ ?_|(clear hK' K';omega)))|(with_reducible refine aqb fun A B hA hB=>?_;simp[h5,h0,h1,ints,hlt];repeat'(with_reducible first|(apply hA;clear hA hB A B)|(apply hB;clear hA hB A B)|refine And.intro ?_ ?_|intro hc))|apply aqc|refine sp ?_|fail)
  ·subst hc
   simp
  ·refine ⟨⟨n+1,?_⟩,?_⟩
   ·have ht':x∉l.take (n+1):=by rw [List.take_succ_eq_append_getElem hlt];simp only [List.mem_append,List.mem_singleton];rintro (h | h);(· exact ht h);(· exact hc h.symm)
    refine ⟨by omega,by simp,by simp [h0],by simp [h1],ht',rfl⟩
   ·simp;omega
 ·have:n=l.length:=by omega
  subst this
  repeat'(with_reducible first|(refine aqd (hK _ _ ?_);clear hK K)|refine vr [] fun K hK=>?_|(refine aqa fun K' hK'=>?_;simp[h5,h0,h1,ints];repeat'(first|(apply hK';clear hK' K')|fail))|(with_reducible refine aqb fun A B hA hB=>?_;simp[h5,h0,h1,ints];repeat'(with_reducible first|(apply hA;clear hA hB A B)|(apply hB;clear hA hB A B)|refine And.intro ?_ ?_|intro hc))|apply aqc|refine sp ?_|fail)
  simpa using ht
theorem risesB_snoc {l:List Int} {last x:Int}:aqw last (l++[x])=(aqw last l&&decide (l.getLast?.getD last<x)&&decide (x<=1099511627776)):=by
 induction l generalizing last with
 | nil=>simp only [List.nil_append,aqw,Bool.true_and,Bool.and_true];rfl
 | cons y l ih=>
  rw [List.cons_append,aqw,ih,aqw]
  have:(y::l).getLast?.getD last=l.getLast?.getD y:=by simp [List.getLast?_cons]
  rw [this]
  simp only [Bool.and_assoc]
theorem risesB_above {l:List Int} {last:Int} (h:aqw last l=true):∀ x∈l,last<x/\x<=1099511627776:=by
 induction l generalizing last with
 | nil=>simp
 | cons y l ih=>
  simp [aqw] at h
  intro x hx
  rcases List.mem_cons.1 hx with rfl | hx
  ·exact ⟨h.1.1,h.1.2⟩
  ·have:=ih h.2 x hx;omega
theorem risesB_take {l:List Int} {last:Int} {n:Nat} (h:aqw last l=true):aqw last (l.take n)=true:=by
 induction l generalizing last n with
 | nil=>simpa using h
 | cons x l ih=>
  cases n with
  | zero=>simp [aqw]
  | succ n=>
   simp [aqw] at h ⊢
   exact ⟨h.1,ih h.2⟩
theorem cqo {l:List Int} (hl:aqz l):Ret Tryz.prog w0 39 [ints l] (B (aqw (-1) l)):=by
 intro H
 refine aqf Tryz.func39 rfl Tryz.ntmps39 (ts:=[2]) rfl (by simp) (by kernel_rfl) ?_
 repeat'(with_reducible first|(refine sp (hK _ _ ?_);clear hK K)|refine vr [] fun K hK=>?_|(refine aqa fun K' hK'=>?_;simp[ints];repeat'(first|(apply hK';clear hK' K')|fail))|refine sp ?_|fail)
 refine aqi (fun env h=>∃ (k:Nat),k<=l.length/\env 3=I k/\env 0=ints l/\aqw (-1) (l.take k)=true/\h=H) (fun env _=>l.length-natA (env 3)) ?_ ?_
 ·exact ⟨0,by simp [ints,gqs,aqw]⟩
 rintro env h ⟨n,hn,h3,h0,ht,rfl⟩
 have hnat:natA (env 3)=n:=by simp [h3]
 rw [hnat];clear hnat
 by_cases hlt:n<l.length
 ·have hs:aqw (-1) (l.take (n+1))=(aqw (-1) (l.take n)&&decide ((l.take n).getLast?.getD (-1)<l[n])&&decide (l[n]<=1099511627776)):=by
   rw [List.take_succ_eq_append_getElem hlt,risesB_snoc]
  have hno:¬(aqw (-1) (l.take (n+1))=true)->aqw (-1) l=false:=by
   intro h
   cases e:aqw (-1) l with
   | false=>rfl
   | true=>exact absurd (risesB_take e) h
  have hlast:∀ h:0<n,(l.take n).getLast?.getD (-1)=l[n-1]:=by
   intro h
   rw [List.getLast?_eq_getElem?,List.length_take,List.getElem?_take]
   have:min n l.length-1=n-1:=by omega
   rw [this,if_pos (by omega)]
   simp [show n-1<l.length by omega]
  have hpos:∀ h:0<n,0<=l[n-1]:=by
   intro h
   have:=risesB_above ht l[n-1] (by rw [List.mem_take_iff_getElem];exact ⟨n-1,by omega,rfl⟩)
   omega
  have hz:n=0->(l.take n).getLast?.getD (-1)= -1:=by intro h;subst h;rfl
  rw [ht] at hs
  have hbad:∀ h:(l[n]<0\/1099511627776<l[n]\/0<n/\∃ q:n-1<l.length,l[n]<=l[n-1]),aqw (-1) l=false:=by
   intro h
   apply hno
   rw [hs]
   simp only [Bool.true_and,Bool.and_eq_true,decide_eq_true_eq,not_and]
   by_cases hn0:n=0
   ·rw [hz hn0];omega
   ·rw [hlast (by omega)];have:=hpos (by omega);rcases h with h | h | ⟨_,_,h⟩<;>omega
  have hgood:0<=l[n]->l[n]<=1099511627776->(∀ q:0<n,l[n-1]<l[n])->aqw (-1) (l.take (n+1))=true:=by
   intro h1 h2 h3
   rw [hs]
   simp only [Bool.true_and,Bool.and_eq_true,decide_eq_true_eq]
   by_cases hn0:n=0
   ·rw [hz hn0];omega
   ·rw [hlast (by omega)];exact ⟨h3 (by omega),h2⟩
  clear hs hno hlast hpos hz
  cases n with
  | zero=>
   repeat'(with_reducible first|(refine sp (hK _ _ ?_);clear hK K)|refine vr [] fun K hK=>?_|(refine vd [] [] mixed fun K hK=>?_)|((first|refine aqa fun K' hK'=>?_|refine aqn fun K' hK'=>?_|(apply bq8;refine aqt rfl fun K' hK'=>?_));simp[h3,h0,ints,hlt];repeat'(first|(apply hK';clear hK' K')|refine And.intro ?_ ?_|intro hg|fail))|(with_reducible refine aqb fun A B hA hB=>?_;simp[h3,h0,ints,hlt];repeat'(with_reducible first|(apply hA;clear hA hB A B)|(apply hB;clear hA hB A B)|refine And.intro ?_ ?_|intro hc))|apply aqc|refine sp ?_|fail)
   ·exact ⟨⟨1,by omega,by simp,by simp [h0],hgood ‹_› ‹_› (by omega),rfl⟩,by simp;omega⟩
   all_goals have hb:=hbad (by omega);simp [hb]
  | succ m=>
   have hm:m<l.length:=by omega
   repeat'(with_reducible first|(refine sp (hK _ _ ?_);clear hK K)|refine vr [] fun K hK=>?_|(refine vd [] [] mixed fun K hK=>?_)|((first|refine aqa fun K' hK'=>?_|refine aqn fun K' hK'=>?_|(apply bq8;refine aqt rfl fun K' hK'=>?_));simp[h3,h0,ints,hlt,hm];repeat'(first|(apply hK';clear hK' K')|refine And.intro ?_ ?_|intro hg|(clear hK' K';omega)))|(with_reducible refine aqb fun A B hA hB=>?_;simp[h3,h0,ints,hlt,hm];repeat'(with_reducible first|(apply hA;clear hA hB A B)|(apply hB;clear hA hB A B)|refine And.intro ?_ ?_|intro hc))|apply aqc|refine sp ?_|fail)
   all_goals first
    | (exfalso;omega)
    | (have hb:=hbad (by first | omega | exact .inr (.inr ⟨by omega,hm,by simpa using by assumption⟩));simp [hb];done)
    | exact ⟨⟨m+2,by omega,by simp;omega,by simp [h0],hgood ‹_› ‹_› (fun _=>by simp;omega),rfl⟩,by simp;omega⟩
 ·have:n=l.length:=by omega
  subst this
  repeat'(with_reducible first|(refine sp (hK _ _ ?_);clear hK K)|refine vr [] fun K hK=>?_|(refine aqa fun K' hK'=>?_;simp[h3,h0,ints];repeat'(first|(apply hK';clear hK' K')|fail))|(with_reducible refine aqb fun A B hA hB=>?_;simp[h3,h0,ints];repeat'(with_reducible first|(apply hA;clear hA hB A B)|(apply hB;clear hA hB A B)|refine And.intro ?_ ?_|intro hc))|apply aqc|refine sp ?_|fail)
  rw [List.take_length] at ht
  simp [ht]
end Go.Am
namespace Go.Am
open Go Go.Proofs
set_option linter.unusedVariables false
set_option linter.unusedSimpArgs false
variable {w0:World}
attribute [local irreducible] AWP aqo
attribute [local congr] aqp
abbrev jqg {α:Type} (l:List α):Prop:=l.length<=1099511627776
theorem gqb {a b:List Int} (ha:jqg a) (hb:aqz b):Ret Tryz.prog w0 34 [ints a,ints b] (ints (if aqw (-1) a&&aqw (-1) b then a.filter (fun x=> !decide (x∈b)) else [])):=by
 intro H
 have ha':aqz a:=by omega
 refine aqf Tryz.func34 rfl Tryz.ntmps34 (ts:=[4]) rfl (by simp) (by kernel_rfl) ?_ |>cq4
 repeat'(with_reducible first|(refine aqd (hK _ _ ?_);clear hK K)|refine vr [7] fun K hK=>?_|(refine aqa fun K' hK'=>?_;simp[ints];repeat'(first|(apply hK';clear hK' K')|intro hg|fail))|refine sp ?_|fail)
 rename_i r
 have hr:H r=none:=hg
 clear hg
 have hlen:∀ n,((a.take n).filter (fun x=> !decide (x∈b))).length<=n:=fun n=>Nat.le_trans (List.length_filter_le _ _) (by simp;omega)
 refine aqi (fun env h=>∃ (k:Nat),k<=a.length/\(k≠0->(aqw (-1) a&&aqw (-1) b)=true)/\env 6=I k/\env 0=ints a/\env 1=ints b/\ 
   env 5= .ref r 0 ((a.take k).filter (fun x=> !decide (x∈b))).length ((a.take k).filter (fun x=> !decide (x∈b))).length/\h=upd H r (some (.arr 1 3 (((a.take k).filter (fun x=> !decide (x∈b))).map I) ((a.take k).filter (fun x=> !decide (x∈b))).length))) (fun env _=>a.length-natA (env 6)) ?_ ?_
 ·exact ⟨0,by simp [ints,gqs]⟩
 rintro env h ⟨n,hn,hm,h6,h0,h1,h5,rfl⟩
 have hnat:natA (env 6)=n:=by simp [h6]
 rw [hnat];clear hnat
 have hln:=hlen n
 by_cases hlt:n<a.length
 ·have hf:(a.take (n+1)).filter (fun x=> !decide (x∈b))=(a.take n).filter (fun x=> !decide (x∈b))++if (!decide (a[n]∈b))=true then [a[n]] else []:=by
   rw [List.take_succ_eq_append_getElem hlt,List.filter_append];simp [List.filter_cons]
  generalize hout:(a.take n).filter (fun x=> !decide (x∈b))=out at *
  repeat'(with_reducible first|(refine aqd (hK _ _ ?_);clear hK K)|refine vr [] fun K hK=>?_|((first|refine aqa fun K' hK'=>?_|(apply aqk;refine aqe rfl fun K' hK'=>?_));simp[h6,h0,h1,h5,ints,hlt];repeat'(first|(apply hK';clear hK' K')|refine Ret.use (cqo ha') ?_|refine Ret.use (cqo hb) ?_|refine Ret.use (in_ret hb) ?_|refine And.intro ?_ ?_|intro hg|(clear hK' K';omega)))|(with_reducible refine aqb fun A B hA hB=>?_;simp[h6,h0,h1,h5,ints,hlt];repeat'(with_reducible first|(apply hA;clear hA hB A B)|(apply hB;clear hA hB A B)|refine And.intro ?_ ?_|intro hc))|apply aqc|refine sp ?_|fail)
  ·rw [if_pos (by simp [hc])] at hf
   refine ⟨⟨n+1,by omega,fun _=>by simp [*],by simp,by simp [h0],by simp [h1],?_,?_⟩,by simp;omega⟩
   ·simp [hf]
   ·simp [hf,aqx]
  ·rw [if_neg (by simp [hc])] at hf
   refine ⟨⟨n+1,by omega,fun _=>by simp [*],by simp,by simp [h0],by simp [h1],?_,?_⟩,by simp;omega⟩
   ·simp [hf,h5]
   ·simp [hf]
  all_goals
   have h00:n=0:=by
    cases n with
    | zero=>rfl
    | succ m=>have:=hm (by omega);simp [*] at this
   subst h00
   have ho:out=[]:=by rw [<-hout];rfl
   exact frz hr (by simp) rfl (by simp [*])
 ·have:n=a.length:=by omega
  subst this
  repeat'(with_reducible first|(refine aqd (hK _ _ ?_);clear hK K)|refine vr [] fun K hK=>?_|((first|refine aqa fun K' hK'=>?_|(apply aqk;refine aqe rfl fun K' hK'=>?_));simp[h6,h0,h1,h5,ints];repeat'(first|(apply hK';clear hK' K')|fail))|(with_reducible refine aqb fun A B hA hB=>?_;simp[h6,h0,h1,h5,ints];repeat'(with_reducible first|(apply hA;clear hA hB A B)|(apply hB;clear hA hB A B)|refine And.intro ?_ ?_|intro hc))|apply aqc|refine sp ?_|fail)
  refine frz hr (by simp) rfl ?_
  by_cases h0:a=[]
  ·subst h0;simp
  ·rw [if_pos (hm (by simp [h0]))]
   simp
def upto (n:Nat):List Int:=(List.range n).map Int.ofNat
@[simp] theorem aqv (n:Nat):(upto n).length=n:=by simp [upto]
theorem dqw (n:Nat):upto (n+1)=upto n++[(n:Int)]:=by simp [upto,List.range_succ]
theorem bq4:upto 0=[]:=rfl
theorem cqm {n k:Nat} (h:k<(upto n).length):(upto n)[k]=k:=by simp [upto]
theorem aqq {n:Nat} {x:Int}:x∈upto n↔0<=x/\x<n:=by
 simp only [upto,List.mem_map,List.mem_range]
 constructor
 ·rintro ⟨k,hk,rfl⟩;simp only [Int.ofNat_eq_natCast];omega
 ·intro h;exact ⟨x.toNat,by omega,by simp only [Int.ofNat_eq_natCast];omega⟩
theorem cut_upto (n:Nat):cut 1 ((upto n).map I) 0 n=ints (upto n):=by
 have:=bqw I (upto n)
 rw [aqv] at this
 rw [ints,aqv];exact this
def allL (n:Int):List Int:=if n<=100000 then upto n.toNat else []
theorem jqu {n:Int}:Ret Tryz.prog w0 35 [I n] (ints (allL n)):=by
 intro H
 refine aqf Tryz.func35 rfl Tryz.ntmps35 (ts:=[2]) rfl (by simp) (by kernel_rfl) ?_ |>cq4
 repeat'(with_reducible first|(refine aqd (hK _ _ ?_);clear hK K)|refine vr [5] fun K hK=>?_|(refine aqa fun K' hK'=>?_;simp[ints];repeat'(first|(apply hK';clear hK' K')|intro hg|fail))|refine sp ?_|fail)
 rename_i r
 have hr:H r=none:=hg
 clear hg
 refine aqi (fun env h=>∃ (k:Nat),(k≠0->k<=n/\n<=100000)/\env 4=I k/\env 0=I n/\env 3= .ref r 0 k k/\h=upd H r (some (.arr 1 3 ((upto k).map I) k))) (fun env _=>n.toNat-natA (env 4)) ?_ ?_
 ·exact ⟨0,by simp [ints,gqs,bq4]⟩
 rintro env h ⟨k,hk,h4,h0,h3,rfl⟩
 have hnat:natA (env 4)=k:=by simp [h4]
 rw [hnat];clear hnat
 repeat'(with_reducible first|(refine aqd (hK _ _ ?_);clear hK K)|refine vr [] fun K hK=>?_|((first|refine aqa fun K' hK'=>?_|(apply aqk;refine aqe rfl fun K' hK'=>?_));simp[h0,h3,h4];repeat'(first|(apply hK';clear hK' K')|refine And.intro ?_ ?_|intro hg|(clear hK' K';omega)))|(with_reducible refine aqb fun A B hA hB=>?_;simp[h0,h3,h4];repeat'(with_reducible first|(apply hA;clear hA hB A B)|(apply hB;clear hA hB A B)|refine And.intro ?_ ?_|intro hc))|apply aqc|refine sp ?_|fail)
 ·exact ⟨⟨k+1,fun _=>by omega,by simp,by simp [h0],by simp,by simp [aqx,dqw]⟩,by simp;omega⟩
 ·have h00:k=0:=by omega
  subst h00
  exact frz hr (by simp) rfl (by simp [allL,bq4,show ¬n<=100000 by omega])
 ·refine frz hr (by simp) rfl ?_
  rw [cut_upto]
  by_cases hk0:k=0
  ·subst hk0
   have:n.toNat=0:=by omega
   simp [allL,this,bq4]
  ·have:n.toNat=k:=by omega
   simp [allL,this,(hk hk0).2]
end Go.Am
namespace Go.Am
open Go Go.Proofs
set_option linter.unusedVariables false
set_option linter.unusedSimpArgs false
variable {w0:World}
attribute [local irreducible] AWP aqo
attribute [local congr] aqp
theorem kqy {n:Int}:Ret Tryz.prog w0 63 [I n] (ints (allL n)):=by
 intro H
 refine aqf Tryz.func63 rfl Tryz.ntmps63 (ts:=[2]) rfl (by simp) (by kernel_rfl) ?_ |>cq4
 repeat'(with_reducible first|(refine aqd (hK _ _ ?_);clear hK K)|refine vr [] fun K hK=>?_|((first|refine aqa fun K' hK'=>?_|(apply aqk;refine aqe rfl fun K' hK'=>?_));simp[ints];repeat'(first|(apply hK';clear hK' K')|refine And.intro ?_ ?_|intro hg|(clear hK' K';omega)))|(with_reducible refine aqb fun A B hA hB=>?_;simp[ints];repeat'(with_reducible first|(apply hA;clear hA hB A B)|(apply hB;clear hA hB A B)|refine And.intro ?_ ?_|intro hc))|apply aqc|refine sp ?_|fail)
 ·exact .inl ⟨by simp [allL,show ¬n<=100000 by omega],.refl _⟩
 ·rename_i hn1 r
  have hr:H r=none:=hg
  clear hg
  refine aqi (fun env h=>∃ (k:Nat),(k:Int)<=n/\env 14=I k/\env 13=I n/\env 3= .ref r 0 n.toNat n.toNat/\h=upd H r (some (.arr 1 3 ((upto k++List.replicate (n.toNat-k) 0).map I) n.toNat))) (fun env _=>n.toNat-natA (env 14)) ?_ ?_
  ·exact ⟨0,by omega,by simp,by simp,by simp,by simp [bq4]⟩
  rintro env h ⟨k,hk,h14,h13,h3,rfl⟩
  have hnat:natA (env 14)=k:=by simp [h14]
  rw [hnat];clear hnat
  by_cases hlt:(k:Int)<n
  ·have hlt':k<n.toNat:=by omega
   obtain ⟨m,hm⟩:∃ m,n.toNat-k=m+1:=⟨n.toNat-k-1,by omega⟩
   have hs:=hqo (upto k) m (0:Int) k
   rw [aqv,<-dqw] at hs
   rw [hm]
   repeat'(with_reducible first|(refine aqd (hK _ _ ?_);clear hK K)|refine vr [] fun K hK=>?_|(refine aqa fun K' hK'=>?_;simp[h14,h13,h3,hlt,hlt'];repeat'(first|(apply hK';clear hK' K')|refine And.intro ?_ ?_|(clear hK' K';omega)))|(with_reducible refine aqb fun A B hA hB=>?_;simp[h14,h13,h3,hlt,hlt'];repeat'(with_reducible first|(apply hA;clear hA hB A B)|(apply hB;clear hA hB A B)|refine And.intro ?_ ?_|intro hc))|refine sp ?_|fail)
   refine ⟨⟨k+1,by omega,by simp,by simp [h13],by simp [h3],?_⟩,by simp;omega⟩
   have hm':n.toNat-(k+1)=m:=by omega
   rw [hm',<-hs]
   simp [aqx]
  ·have:n.toNat=k:=by omega
   rw [this,Nat.sub_self]
   repeat'(with_reducible first|(refine aqd (hK _ _ ?_);clear hK K)|refine vr [] fun K hK=>?_|(refine aqa fun K' hK'=>?_;simp[h14,h13,h3,this];repeat'(first|(apply hK';clear hK' K')|(clear hK' K';omega)))|(with_reducible refine aqb fun A B hA hB=>?_;simp[h14,h13,h3,this];repeat'(with_reducible first|(apply hA;clear hA hB A B)|(apply hB;clear hA hB A B)|refine And.intro ?_ ?_|intro hc))|apply aqc|refine sp ?_|fail)
   refine frz hr (by simp) rfl ?_
   have hn5:n<=100000:=by assumption
   simp [cut_upto,allL,this,hn5]
 ·exact .inl ⟨by simp [allL,show n.toNat=0 by omega,bq4],.refl _⟩
def bq0 (l r b:Bool):List Int->List Int->List Int
 | [],[]=>[]
 | [],y::bs=>if r then y::bq0 l r b [] bs else bq0 l r b [] bs
 | x::xs,[]=>if l then x::bq0 l r b xs [] else bq0 l r b xs []
 | x::xs,y::bs=>
  if x<y then (if l then x::bq0 l r b xs (y::bs) else bq0 l r b xs (y::bs))
  else if y<x then (if r then y::bq0 l r b (x::xs) bs else bq0 l r b (x::xs) bs)
  else (if b then x::bq0 l r b xs bs else bq0 l r b xs bs)
termination_by a b=>a.length+b.length
theorem kqh {a b:List Int} {l r c:Bool} (ha:jqg a) (hb:jqg b):Ret Tryz.prog w0 102 [ints a,ints b,B l,B r,B c] (ints (if aqw (-1) a&&aqw (-1) b then bq0 l r c a b else [])):=by
 intro H
 have ha':aqz a:=by omega
 have hb':aqz b:=by omega
 refine aqf Tryz.func102 rfl Tryz.ntmps102 (ts:=[10]) rfl (by simp) (by kernel_rfl) ?_ |>cq4
 repeat'(with_reducible first|(refine sp (hK _ _ ?_);clear hK K)|refine vr [11] fun K hK=>?_|((first|refine aqa fun K' hK'=>?_|(apply aqk;refine aqe rfl fun K' hK'=>?_));simp[ints];repeat'(first|(apply hK';clear hK' K')|refine Ret.use (dqj ha') ?_|refine Ret.use (dqj hb') ?_|refine And.intro ?_ ?_|intro hg|fail))|(with_reducible refine aqb fun A B hA hB=>?_;simp[ints];repeat'(with_reducible first|(apply hA;clear hA hB A B)|(apply hB;clear hA hB A B)|refine And.intro ?_ ?_|intro hc))|apply aqc|refine sp ?_|fail)
 ·exact .inl ⟨by simp [hc],.refl _⟩
 ·rename_i hra r' 
  have hr:H r'=none:=hg
  clear hg
  rw [hra,hc]
  simp only [Bool.and_self,if_true]
  refine aqi (fun env h=>∃ (out a' b':List Int),out++bq0 l r c a' b'=bq0 l r c a b/\a'.length<=a.length/\b'.length<=b.length/\out.length+a'.length+b'.length<=a.length+b.length/\
    env 0=ints a'/\env 1=ints b'/\env 2=B l/\env 3=B r/\env 4=B c/\env 11= .ref r' 0 out.length out.length/\h=upd H r' (some (.arr 1 3 (out.map I) out.length))) (fun env _=>lenA (env 0)+lenA (env 1)) ?_ ?_
  ·exact ⟨[],a,b,rfl,by omega,by omega,by simp,by simp [ints],by simp [ints],by simp,by simp,by simp,by simp,by simp⟩
  rintro env h ⟨out,a',b',ho,hla,hlb,hlo,h0,h1,h2,h3,h4,h11,rfl⟩
  have hm:lenA (env 0)+lenA (env 1)=a'.length+b'.length:=by simp [h0,h1,lenA,ints]
  rw [hm];clear hm
  cases a' with
  | nil=>
   cases b' with
   | nil=>
    repeat'(with_reducible first|(refine sp (hK _ _ ?_);clear hK K)|refine vr [] fun K hK=>?_|((first|refine aqa fun K' hK'=>?_|(apply aqk;refine aqe rfl fun K' hK'=>?_));simp[h0,h1,h2,h3,h4,h11,ints];repeat'(first|(apply hK';clear hK' K')|fail))|(with_reducible refine aqb fun A B hA hB=>?_;simp[h0,h1,h2,h3,h4,h11,ints];repeat'(with_reducible first|(apply hA;clear hA hB A B)|(apply hB;clear hA hB A B)|refine And.intro ?_ ?_|intro hc))|apply aqc|refine sp ?_|fail)
    refine frz hr (by simp) rfl ?_
    rw [bq0,List.append_nil] at ho
    simp [ho]
   | cons y ys=>
    rw [bq0] at ho
    simp only [List.length_cons,List.length_nil] at hla hlb hlo
    repeat'(with_reducible first|(refine sp (hK _ _ ?_);clear hK K)|refine vr [] fun K hK=>?_|(refine vd [] [] mixed fun K hK=>?_)|((first|refine aqa fun K' hK'=>?_|refine aqn fun K' hK'=>?_|(apply aqk;refine aqe rfl fun K' hK'=>?_)|(apply bq8;refine aqt rfl fun K' hK'=>?_));simp[h0,h1,h2,h3,h4,h11,ints];repeat'(first|(apply hK';clear hK' K')|refine And.intro ?_ ?_|intro hg|(clear hK' K';omega)))|(with_reducible refine aqb fun A B hA hB=>?_;simp[h0,h1,h2,h3,h4,h11,ints];repeat'(with_reducible first|(apply hA;clear hA hB A B)|(apply hB;clear hA hB A B)|refine And.intro ?_ ?_|intro hc))|refine sp ?_|fail)
    ·exact ⟨⟨out++[y],[],ys,by simpa [hc] using ho,by (try simp)<;>omega,by (try simp)<;>omega,by (try simp)<;>omega,by simp [h0],by simp [h1],by simp [h2],by simp [h3],by simp [h4],by simp [h11],by simp⟩,by (try simp [lenA,h0,h1])<;>omega⟩
    ·exact ⟨⟨out,[],ys,by simpa [hc] using ho,by (try simp)<;>omega,by (try simp)<;>omega,by (try simp)<;>omega,by simp [h0],by simp [h1],by simp [h2],by simp [h3],by simp [h4],by simp [h11],by simp⟩,by (try simp [lenA,h0,h1])<;>omega⟩
  | cons x xs=>
   cases b' with
   | nil=>
    rw [bq0] at ho
    simp only [List.length_cons,List.length_nil] at hla hlb hlo
    repeat'(with_reducible first|(refine sp (hK _ _ ?_);clear hK K)|refine vr [] fun K hK=>?_|(refine vd [] [] mixed fun K hK=>?_)|((first|refine aqa fun K' hK'=>?_|refine aqn fun K' hK'=>?_|(apply aqk;refine aqe rfl fun K' hK'=>?_)|(apply bq8;refine aqt rfl fun K' hK'=>?_));simp[h0,h1,h2,h3,h4,h11,ints];repeat'(first|(apply hK';clear hK' K')|refine And.intro ?_ ?_|(clear hK' K';omega)))|(with_reducible refine aqb fun A B hA hB=>?_;simp[h0,h1,h2,h3,h4,h11,ints];repeat'(with_reducible first|(apply hA;clear hA hB A B)|(apply hB;clear hA hB A B)|refine And.intro ?_ ?_|intro hc))|refine sp ?_|fail)
    ·exact ⟨⟨out++[x],xs,[],by simpa [hc] using ho,by (try simp)<;>omega,by (try simp)<;>omega,by (try simp)<;>omega,by simp [h0],by simp [h1],by simp [h2],by simp [h3],by simp [h4],by simp [h11],by simp⟩,by (try simp [lenA,h0,h1])<;>omega⟩
    ·exact ⟨⟨out,xs,[],by simpa [hc] using ho,by (try simp)<;>omega,by (try simp)<;>omega,by (try simp)<;>omega,by simp [h0],by simp [h1],by simp [h2],by simp [h3],by simp [h4],by simp [h11],by simp⟩,by (try simp [lenA,h0,h1])<;>omega⟩
   | cons y ys=>
    rw [bq0] at ho
    simp only [List.length_cons,List.length_nil] at hla hlb hlo
    repeat'(with_reducible first|(refine sp (hK _ _ ?_);clear hK K)|refine vr [] fun K hK=>?_|(refine vd [] [] mixed fun K hK=>?_)|((first|refine aqa fun K' hK'=>?_|refine aqn fun K' hK'=>?_|(apply aqk;refine aqe rfl fun K' hK'=>?_)|(apply bq8;refine aqt rfl fun K' hK'=>?_));simp[h0,h1,h2,h3,h4,h11,ints];repeat'(first|(apply hK';clear hK' K')|refine And.intro ?_ ?_|intro hg|(clear hK' K';omega)))|(with_reducible refine aqb fun A B hA hB=>?_;simp[h0,h1,h2,h3,h4,h11,ints];repeat'(with_reducible first|(apply hA;clear hA hB A B)|(apply hB;clear hA hB A B)|refine And.intro ?_ ?_|intro hc))|refine sp ?_|fail)
    all_goals first
     | (exfalso;omega)
     | exact ⟨⟨out++[x],xs,y::ys,by rw [if_pos (by omega),if_pos hc] at ho;simpa using ho,by (try simp)<;>omega,by (try simp)<;>omega,by (try simp)<;>omega,by simp [h0],by simp [h1],by simp [h2],by simp [h3],by simp [h4],by simp [h11],by simp⟩,by (try simp [lenA,h0,h1])<;>omega⟩
     | exact ⟨⟨out,xs,y::ys,by rw [if_pos (by omega),if_neg (by simp [hc])] at ho;simpa using ho,by (try simp)<;>omega,by (try simp)<;>omega,by (try simp)<;>omega,by simp [h0],by simp [h1],by simp [h2],by simp [h3],by simp [h4],by simp [h11],by simp⟩,by (try simp [lenA,h0,h1])<;>omega⟩
     | exact ⟨⟨out++[y],x::xs,ys,by rw [if_neg (by omega),if_pos (by omega),if_pos hc] at ho;simpa using ho,by (try simp)<;>omega,by (try simp)<;>omega,by (try simp)<;>omega,by simp [h0],by simp [h1],by simp [h2],by simp [h3],by simp [h4],by simp [h11],by simp⟩,by (try simp [lenA,h0,h1])<;>omega⟩
     | exact ⟨⟨out,x::xs,ys,by rw [if_neg (by omega),if_pos (by omega),if_neg (by simp [hc])] at ho;simpa using ho,by (try simp)<;>omega,by (try simp)<;>omega,by (try simp)<;>omega,by simp [h0],by simp [h1],by simp [h2],by simp [h3],by simp [h4],by simp [h11],by simp⟩,by (try simp [lenA,h0,h1])<;>omega⟩
     | exact ⟨⟨out++[x],xs,ys,by rw [if_neg (by omega),if_neg (by omega),if_pos hc] at ho;simpa using ho,by (try simp)<;>omega,by (try simp)<;>omega,by (try simp)<;>omega,by simp [h0],by simp [h1],by simp [h2],by simp [h3],by simp [h4],by simp [h11],by simp⟩,by (try simp [lenA,h0,h1])<;>omega⟩
     | exact ⟨⟨out,xs,ys,by rw [if_neg (by omega),if_neg (by omega),if_neg (by simp [hc])] at ho;simpa using ho,by (try simp)<;>omega,by (try simp)<;>omega,by (try simp)<;>omega,by simp [h0],by simp [h1],by simp [h2],by simp [h3],by simp [h4],by simp [h11],by simp⟩,by (try simp [lenA,h0,h1])<;>omega⟩
 ·exact .inl ⟨by simp [hg],.refl _⟩
end Go.Am
namespace Go.Am
open Go Go.Proofs
set_option linter.unusedVariables false
set_option linter.unusedSimpArgs false
variable {w0:World}
attribute [local irreducible] AWP aqo
attribute [local congr] aqp
def dqx (a b:List Int):List Int:=if aqw (-1) a&&aqw (-1) b then bq0 true true true a b else []
def meetL (a b:List Int):List Int:=if aqw (-1) a&&aqw (-1) b then bq0 false false true a b else []
def dq9 (a b:List Int):List Int:=if aqw (-1) a&&aqw (-1) b then bq0 true false false a b else []
theorem jq1 {a b:List Int} (ha:jqg a) (hb:jqg b):Ret Tryz.prog w0 103 [ints a,ints b] (ints (dqx a b)):=by
 intro H
 refine aqf Tryz.func103 rfl Tryz.ntmps103 (ts:=[4]) rfl (by simp) (by kernel_rfl) ?_
 repeat'(with_reducible first|(refine aqd (hK _ _ ?_);clear hK K)|refine vr [] fun K hK=>?_|(refine aqa fun K' hK'=>?_;simp[ints];repeat'(first|(apply hK';clear hK' K')|refine Ret.use (kqh ha hb) ?_|fail))|apply aqc|refine sp ?_|fail)
 simp [dqx]
theorem meet_ret {a b:List Int} (ha:jqg a) (hb:jqg b):Ret Tryz.prog w0 71 [ints a,ints b] (ints (meetL a b)):=by
 intro H
 refine aqf Tryz.func71 rfl Tryz.ntmps71 (ts:=[4]) rfl (by simp) (by kernel_rfl) ?_
 repeat'(with_reducible first|(refine aqd (hK _ _ ?_);clear hK K)|refine vr [] fun K hK=>?_|(refine aqa fun K' hK'=>?_;simp[ints];repeat'(first|(apply hK';clear hK' K')|refine Ret.use (kqh ha hb) ?_|fail))|apply aqc|refine sp ?_|fail)
 simp [meetL]
theorem dqg {a b:List Int} (ha:jqg a) (hb:jqg b):Ret Tryz.prog w0 62 [ints a,ints b] (ints (dq9 a b)):=by
 intro H
 refine aqf Tryz.func62 rfl Tryz.ntmps62 (ts:=[4]) rfl (by simp) (by kernel_rfl) ?_
 repeat'(with_reducible first|(refine aqd (hK _ _ ?_);clear hK K)|refine vr [] fun K hK=>?_|(refine aqa fun K' hK'=>?_;simp[ints];repeat'(first|(apply hK';clear hK' K')|refine Ret.use (kqh ha hb) ?_|fail))|apply aqc|refine sp ?_|fail)
 simp [dq9]
def insL (x:Int):List Int->List Int
 | []=>[x]
 | y::l=>if x<y then x::y::l else y::insL x l
def cq3 (l:List Int):List Int:=l.foldl (fun out x=>if x<0\/1099511627776<x\/x∈out then out else insL x out) []
theorem eq9 (x:Int) (l:List Int):(insL x l).length=l.length+1:=by
 induction l with
 | nil=>rfl
 | cons y l ih=>simp only [insL];split<;>simp [ih]
theorem insL_ge (x:Int) (l:List Int):(cq3 l).length<=l.length:=by
 unfold cq3
 have:∀ (l:List Int) (out:List Int),(l.foldl (fun out x=>if x<0\/1099511627776<x\/x∈out then out else insL x out) out).length<=out.length+l.length:=by
  intro l
  induction l with
  | nil=>intro out;simp
  | cons x l ih=>
   intro out
   simp only [List.foldl_cons,List.length_cons]
   refine Nat.le_trans (ih _) ?_
   split
   ·omega
   ·rw [eq9];omega
 simpa using this l []
theorem sortR_take {l:List Int} {n:Nat} (h:n<l.length):cq3 (l.take (n+1))=if l[n]<0\/1099511627776<l[n]\/l[n]∈cq3 (l.take n) then cq3 (l.take n) else insL l[n] (cq3 (l.take n)):=by
 unfold cq3
 rw [List.take_succ_eq_append_getElem h,List.foldl_append]
 rfl
theorem sort2_ret {l:List Int} (hl:jqg l):Ret Tryz.prog w0 37 [ints l] (ints (cq3 l)):=by
 intro H
 refine aqf Tryz.func37 rfl Tryz.ntmps37 (ts:=[2]) rfl (by simp) (by kernel_rfl) ?_
 repeat'(with_reducible first|(refine sp (hK _ _ ?_);clear hK K)|refine vr [8] fun K hK=>?_|(refine aqa fun K' hK'=>?_;simp[ints];repeat'(first|(apply hK';clear hK' K')|intro hg|fail))|refine sp ?_|fail)
 rename_i r
 have hr:H r=none:=hg
 clear hg
 refine fqe (fun env h=>∃ (k:Nat),k<=l.length/\env 4=I k/\env 0=ints l/\env 3=ints (cq3 (l.take k))/\h=H) 
  (fun env h=>∃ (k:Nat),k<=l.length/\env 4=I k/\env 0=ints l/\listIn H 3 (cq3 (l.take k)) env h) (fun env _=>l.length-natA (env 4)) ?_ ?_ ?_
 ·exact ⟨0,by omega,by simp,by simp,.inr ⟨r,hr,by simp [cq3],by simp [cq3]⟩⟩
 ·rintro env h ⟨k,hk,h4,h0,h3⟩ Q' q
  exact h3.prep fun env' e e'=>q env' H ⟨k,hk,by rw [e' _ (by decide),h4],by rw [e' _ (by decide),h0],e,rfl⟩ (by rw [e' _ (by decide)])
 rintro env h ⟨n,hn,h4,h0,h3,rfl⟩
 have hnat:natA (env 4)=n:=by simp [h4]
 rw [hnat];clear hnat
 have hlen:=insL_ge 0 (l.take n)
 rw [List.length_take] at hlen
 have hst:=fun h=>sortR_take (l:=l) (n:=n) h
 generalize hout:cq3 (l.take n)=out at h3 hlen hst
 by_cases hlt:n<l.length
 ·have hst:=hst hlt
  have hol:aqz out:=by omega
  repeat'(with_reducible first|(refine sp (hK _ _ ?_);clear hK K)|refine vr [35] fun K hK=>?_|((first|refine aqa fun K' hK'=>?_|(apply aqk;refine aqe rfl fun K' hK'=>?_));simp[h4,h0,h3,hlt,ints];repeat'(first|(apply hK';clear hK' K')|refine Ret.use (in_ret hol) ?_|refine And.intro ?_ ?_|intro hg|(clear hK' K';omega)))|(with_reducible refine aqb fun A B hA hB=>?_;simp[h4,h0,h3,hlt,ints];repeat'(with_reducible first|(apply hA;clear hA hB A B)|(apply hB;clear hA hB A B)|refine And.intro ?_ ?_|intro hc))|refine sp ?_|fail)
  rotate_left
  ·rename_i r2
   have hr2:h r2=none:=hg
   clear hg
   have hno:¬(l[n]<0\/1099511627776<l[n]\/l[n]∈out):=by
    rintro (h | h | h)
    ·omega
    ·omega
    ·exact absurd h (by assumption)
   rw [if_neg hno] at hst
   have hx:∀ x,x=l[n]->insL x out=insL l[n] out:=by rintro _ rfl;rfl
   refine aqi (fun env h'=>∃ (k:Nat) (next:List Int) (ld:Bool),k<=out.length/\env 7=I k/\env 6=B ld/\env 4=I n/\env 0=ints l/\env 3=ints out/\env 5= .ref r2 0 next.length next.length/\
    next++(if ld then out.drop k else insL l[n] (out.drop k))=insL l[n] out/\h'=upd h r2 (some (.arr 1 3 (next.map I) next.length))) (fun env _=>out.length-natA (env 7)) ?_ ?_
   ·exact ⟨0,[],false,by omega,by simp,by simp,by simp [h4],by simp [h0],by simp [h3],by simp,by simp,by simp⟩
   clear h4 h0 h3
   rintro env1 h1 ⟨k,next,ld,hk,h7,h6,h4,h0,h3,h5,hnx,rfl⟩
   have hnat:natA (env1 7)=k:=by simp [h7]
   rw [hnat];clear hnat
   have hnl:next.length<=out.length+1:=by
    have:=congrArg List.length hnx
    rw [eq9] at this
    simp only [List.length_append] at this
    omega
   by_cases hk':k<out.length
   ·rw [List.drop_eq_getElem_cons hk'] at hnx
    cases ld with
    | false=>
     rw [if_neg (by simp),insL] at hnx
     have hnl2:next.length+1<=out.length+1:=by
      have:=congrArg List.length hnx
      rw [eq9] at this
      split at this<;>simp [eq9] at this<;>omega
     repeat'(with_reducible first|(refine sp (hK _ _ ?_);clear hK K)|refine vr [] fun K hK=>?_|(refine vd [] [] mixed fun K hK=>?_)|((first|refine aqa fun K' hK'=>?_|refine aqn fun K' hK'=>?_|(apply bq8;refine aqt rfl fun K' hK'=>?_));simp[h7,h6,h4,h0,h3,h5,hk',hlt,ints];repeat'(first|(apply hK';clear hK' K')|refine And.intro ?_ ?_|(clear hK' K';omega)))|(with_reducible refine aqb fun A B hA hB=>?_;simp[h7,h6,h4,h0,h3,h5,hk',hlt,ints];repeat'(with_reducible first|(apply hA;clear hA hB A B)|(apply hB;clear hA hB A B)|refine And.intro ?_ ?_|intro hc))|refine sp ?_|fail)
     ·rw [if_pos hc] at hnx
      exact ⟨⟨k+1,next++[l[n],out[k]],true,by omega,by simp,by simp,by simp [h4],by simp [h0],by simp [h3],by simp,by simpa using hnx,by simp⟩,by simp;omega⟩
     ·rw [if_neg (by omega)] at hnx
      exact ⟨⟨k+1,next++[out[k]],false,by omega,by simp,by simp [h6],by simp [h4],by simp [h0],by simp [h3],by simp,by simpa using hnx,by simp⟩,by simp;omega⟩
    | true=>
     rw [if_pos rfl] at hnx
     repeat'(with_reducible first|(refine sp (hK _ _ ?_);clear hK K)|refine vr [] fun K hK=>?_|(refine vd [] [] mixed fun K hK=>?_)|((first|refine aqa fun K' hK'=>?_|refine aqn fun K' hK'=>?_|(apply bq8;refine aqt rfl fun K' hK'=>?_));simp[h7,h6,h4,h0,h3,h5,hk',hlt,ints];repeat'(first|(apply hK';clear hK' K')|refine And.intro ?_ ?_|(clear hK' K';omega)))|(with_reducible refine aqb fun A B hA hB=>?_;simp[h7,h6,h4,h0,h3,h5,hk',hlt,ints];repeat'(with_reducible first|(apply hA;clear hA hB A B)|(apply hB;clear hA hB A B)|refine And.intro ?_ ?_|intro hc))|refine sp ?_|fail)
     exact ⟨⟨k+1,next++[out[k]],true,by omega,by simp,by simp [h6],by simp [h4],by simp [h0],by simp [h3],by simp,by simpa using hnx,by simp⟩,by simp;omega⟩
   ·have:k=out.length:=by omega
    subst this
    rw [List.drop_length] at hnx
    cases ld with
    | false=>
     rw [if_neg (by simp),insL] at hnx
     repeat'(with_reducible first|(refine sp (hK _ _ ?_);clear hK K)|refine vr [] fun K hK=>?_|(refine aqa fun K' hK'=>?_;simp[h7,h6,h4,h0,h3,h5,hlt,ints];repeat'(first|(apply hK';clear hK' K')|refine And.intro ?_ ?_|(clear hK' K';omega)))|(with_reducible refine aqb fun A B hA hB=>?_;simp[h7,h6,h4,h0,h3,h5,hlt,ints];repeat'(with_reducible first|(apply hA;clear hA hB A B)|(apply hB;clear hA hB A B)|refine And.intro ?_ ?_|intro hc))|refine sp ?_|fail)
     exact ⟨⟨n+1,by omega,by simp [h4],by simp [h0],.inr ⟨r2,hr2,by rw [hst,<-hnx];simp,by rw [hst,<-hnx];simp⟩⟩,by simp [h4];omega⟩
    | true=>
     rw [if_pos rfl,List.append_nil] at hnx
     repeat'(with_reducible first|(refine sp (hK _ _ ?_);clear hK K)|refine vr [] fun K hK=>?_|(refine aqa fun K' hK'=>?_;simp[h7,h6,h4,h0,h3,h5,hlt,ints];repeat'(first|(apply hK';clear hK' K')|refine And.intro ?_ ?_|(clear hK' K';omega)))|(with_reducible refine aqb fun A B hA hB=>?_;simp[h7,h6,h4,h0,h3,h5,hlt,ints];repeat'(with_reducible first|(apply hA;clear hA hB A B)|(apply hB;clear hA hB A B)|refine And.intro ?_ ?_|intro hc))|refine sp ?_|fail)
     exact ⟨⟨n+1,by omega,by simp [h4],by simp [h0],.inr ⟨r2,hr2,by rw [hst,<-hnx];simp [h5],by rw [hst,<-hnx]⟩⟩,by simp [h4];omega⟩
  all_goals exact ⟨⟨n+1,by omega,by simp,by simp [h0],.inl ⟨by rw [hst,if_pos (by first | exact .inl (by omega) | exact .inr (.inl (by omega)) | exact .inr (.inr (by assumption)))];simp [h3],rfl⟩⟩,by simp;omega⟩
 ·have:n=l.length:=by omega
  subst this
  rw [List.take_length] at hout
  repeat'(with_reducible first|(refine sp (hK _ _ ?_);clear hK K)|refine vr [] fun K hK=>?_|(refine aqa fun K' hK'=>?_;simp[h4,h0,h3,ints];repeat'(first|(apply hK';clear hK' K')|fail))|(with_reducible refine aqb fun A B hA hB=>?_;simp[h4,h0,h3,ints];repeat'(with_reducible first|(apply hA;clear hA hB A B)|(apply hB;clear hA hB A B)|refine And.intro ?_ ?_|intro hc))|apply aqc|refine sp ?_|fail)
  simp [hout]
def bql (a b:List Int):List Int:=if aqw (-1) a&&aqw (-1) b then cq3 (a++b) else []
theorem lqe {a b:List Int} (hab:jqg (a++b)):Ret Tryz.prog w0 48 [ints a,ints b] (ints (bql a b)):=by
 intro H
 have hl:a.length+b.length<=1099511627776:=by simpa using hab
 have ha':aqz a:=by omega
 have hb':aqz b:=by omega
 refine aqf Tryz.func48 rfl Tryz.ntmps48 (ts:=[4]) rfl (by simp) (by kernel_rfl) ?_
 repeat'(first|(with_reducible (refine aqd (hK _ _ ?_);clear hK K))|(with_reducible refine vr [13] fun K hK=>?_)|((with_reducible first|refine aqa fun K' hK'=>?_|(apply aqk;refine aqe rfl fun K' hK'=>?_));simp[ints];repeat'(first|(with_reducible first|(apply hK';clear hK' K')|refine Ret.use (cqo ha') ?_|refine Ret.use (cqo hb') ?_)|((with_reducible refine kq0 ?_);try simp[ints])|((with_reducible refine Ret.use_eq (sort2_ret hab) (by simp [ints]) ?_);try simp[ints])|(with_reducible first|refine And.intro ?_ ?_|intro hg)|(clear hK' K';omega)))|(with_reducible refine aqb fun A B hA hB=>?_;simp[ints];repeat'(with_reducible first|(apply hA;clear hA hB A B)|(apply hB;clear hA hB A B)|refine And.intro ?_ ?_|intro hc))|(with_reducible first|apply aqc|refine sp ?_)|fail)
 ·simp [bql,hc]
 ·rename_i hr
  simp [bql, *,aq7]
 ·simp [bql,hg]
end Go.Am
namespace Go.Am
open Go Go.Proofs
set_option linter.unusedVariables false
set_option linter.unusedSimpArgs false
variable {w0:World}
attribute [local irreducible] AWP aqo
attribute [local congr] aqp
def aqy (up:List Nat) (v:Nat):Nat:=if up.getD v v<v then aqy up (up.getD v v) else v
termination_by v
structure Par (up:List Nat) (n:Nat):Prop where
 len:up.length=n
 le:∀ (v:Nat) (h:v<up.length),up[v]<=v
theorem mqt (up:List Nat) (v:Nat):aqy up v<=v:=by
 induction v using Nat.strongRecOn with
 | _ v ih=>
  rw [aqy]
  split
  ·rename_i h;exact Nat.le_trans (ih _ h) (by omega)
  ·omega
theorem rootN_root (up:List Nat) (v:Nat):aqy up (aqy up v)=aqy up v:=by
 induction v using Nat.strongRecOn with
 | _ v ih=>
  by_cases h:up.getD v v<v
  ·have e:aqy up v=aqy up (up.getD v v):=by rw [aqy,if_pos h]
   rw [e];exact ih _ h
  ·have e:aqy up v=v:=by rw [aqy,if_neg h]
   rw [e,e]
theorem cqi {up:List Nat} {v:Nat} (h:v<up.length):aqy up v=if up[v]<v then aqy up up[v] else v:=by
 rw [aqy]
 simp [h]
theorem rootN_short {up:List Nat} {n v:Nat} (p:Par up n) (hv:v<up.length) (hp:up[v]<up.length): 
  Par (up.set v up[up[v]]) n/\∀ w,w<n->aqy (up.set v up[up[v]]) w=aqy up w:=by
 have h1:=p.le v hv
 have h2:=p.le _ hp
 refine ⟨⟨by simp [p.len],fun w hw=> ?_⟩,fun w=> ?_⟩
 ·rw [List.getElem_set]
  split
  ·omega
  ·exact p.le w (by simpa using hw)
 ·induction w using Nat.strongRecOn with
  | _ w ih=>
   intro hw
   have hw':w<up.length:=by rw [p.len];exact hw
   rw [cqi (by simpa using hw'),cqi hw',List.getElem_set]
   have hle:=p.le w hw'
   by_cases e:v=w
   ·subst e
    rw [if_pos rfl]
    by_cases hlt:up[v]<v
    ·rw [if_pos (by omega),if_pos hlt,ih _ (by omega) (by omega),cqi hp]
     split
     ·rfl
     ·have:up[up[v]]=up[v]:=by omega
      rw [this,cqi hp,if_neg (by omega)]
    ·have e1:up[v]=v:=by omega
     have e2:up[up[v]]=v:=by
      have:∀ x (h:x<up.length),x=v->up[x]=up[v]:=by rintro x h rfl;rfl
      rw [this _ hp e1,e1]
     rw [if_neg (by omega),if_neg (by omega)]
   ·rw [if_neg e]
    split
    ·exact ih _ (by omega) (by omega)
    ·rfl
theorem rootN_join {up:List Nat} {n a b:Nat} (p:Par up n) (ha:a<n) (hb:b<a) (ra:aqy up a=a) (rb:aqy up b=b):
  Par (up.set a b) n/\∀ w,w<n->aqy (up.set a b) w=if aqy up w=a then b else aqy up w:=by
 refine ⟨⟨by simp [p.len],fun w hw=> ?_⟩,fun w=> ?_⟩
 ·rw [List.getElem_set]
  split
  ·omega
  ·exact p.le w (by simpa using hw)
 ·induction w using Nat.strongRecOn with
  | _ w ih=>
   intro hw
   have hw':w<up.length:=by rw [p.len];exact hw
   rw [cqi (by simpa using hw'),List.getElem_set]
   by_cases e:a=w
   ·subst e
    rw [if_pos rfl,if_pos hb,ih b hb (by omega),rb,ra,if_pos rfl,if_neg (by omega)]
   ·rw [if_neg e,cqi hw']
    split
    ·exact ih _ (by omega) (by omega)
    ·rw [if_neg (fun h=>e h.symm)]
def fst (H:Heap) (F R:Nat) (up:List Nat) (j:Nat):Heap:=
 upd (upd H R (some (.arr 1 3 (up.map fun x:Nat=>I (x:Int)) up.length))) F (some (.box [.ref R 0 up.length up.length,I (j:Int)]))
theorem nqk (H:Heap) (F R:Nat) (up:List Nat) (j:Nat):fst H F R up j F=some (.box [.ref R 0 up.length up.length,I (j:Int)]):=by simp [fst]
theorem fst_R {F R:Nat} (h:R≠F) (H:Heap) (up:List Nat) (j:Nat):fst H F R up j R=some (.arr 1 3 (up.map fun x:Nat=>I (x:Int)) up.length):=by simp [fst,h]
theorem kqu {F R:Nat} (h:R≠F) (H:Heap) (up:List Nat) (j a b:Nat):
  upd (fst H F R up j) R (some (.arr 1 3 ((up.map fun x:Nat=>I (x:Int)).set a (I (b:Int))) up.length))=fst H F R (up.set a b) j:=by
 unfold fst
 rw [aq9 _ _ _ (fun e=>h e.symm),aqx]
 simp [List.map_set]
theorem fst_box (H:Heap) (F R:Nat) (up:List Nat) (j k:Nat):upd (fst H F R up j) F (some (.box [.ref R 0 up.length up.length,I (k:Int)]))=fst H F R up k:=by
 unfold fst
 rw [aqx]
theorem fst_inc (H:Heap) (F R:Nat) (up:List Nat) (j:Nat) {n:Nat} (hn:n=up.length):upd (fst H F R up j) F (some (.box [.ref R 0 n n,.sc (.int .i64 ((j:Int)+1))]))=fst H F R up (j+1):=by
 subst hn
 exact fst_box H F R up j (j+1)
theorem sub_fst {H:Heap} {F R:Nat} (hF:H F=none) (hR:H R=none) (up:List Nat) (j:Nat):Sub H (fst H F R up j):=((Sub.refl H).upd hR _).upd hF _
theorem rootN_up {up:List Nat} {n v:Nat} (p:Par up n) (hv:v<up.length):aqy up up[v]=aqy up v:=by
 have:=p.le v hv
 rw [cqi hv]
 split
 ·rfl
 ·have e:up[v]=v:=by omega
  rw [e,cqi hv,if_neg (by omega)]
theorem root_ok {H:Heap} {F R n v j:Nat} {up:List Nat} (p:Par up n) (hv:v<n) (hRF:R≠F) {K:AV->Heap->Prop}
  (k:∀ up',Par up' n->(∀ w,w<n->aqy up' w=aqy up w)->K (I (aqy up v:Nat)) (fst H F R up' j)):aqo Tryz.prog w0 221 [.ptr F 0 0,I (v:Int)] (fst H F R up j) K:=by
 refine aqf Tryz.func221 rfl Tryz.ntmps221 (ts:=[4]) rfl (by simp) (by kernel_rfl) ?_
 repeat'(with_reducible first|(refine sp (hK _ _ ?_);clear hK K)|refine vr [] fun K hK=>?_|(refine aqa fun K' hK'=>?_;simp;repeat'(first|(apply hK';clear hK' K')|fail))|refine sp ?_|fail)
 refine aqi (fun env h=>∃ up' v',Par up' n/\(∀ w,w<n->aqy up' w=aqy up w)/\v'<n/\aqy up v'=aqy up v/\env 0= .ptr F 0 0/\env 1=I (v':Nat)/\h=fst H F R up' j) (fun env _=>natA (env 1)) ?_ ?_
 ·exact ⟨up,v,p,fun _ _=>rfl,hv,rfl,by simp,by simp,rfl⟩
 rintro env h ⟨up',v',p',hr,hv',hrv,h0,h1,rfl⟩
 have hnat:natA (env 1)=v':=by simp [h1]
 rw [hnat];clear hnat
 have hvl:v'<up'.length:=by rw [p'.len];exact hv'
 have hle:=p'.le v' hvl
 have hpl:up'[v']<up'.length:=by omega
 have hle2:=p'.le _ hpl
 have hsh:=rootN_short p' hvl hpl
 repeat'(with_reducible first|(refine sp (hK _ _ ?_);clear hK K)|refine vr [] fun K hK=>?_|(refine vd [] [] mixed fun K hK=>?_)|((first|refine aqa fun K' hK'=>?_|refine aqb fun K' B hK' hB=>?_|refine aqn fun K' hK'=>?_);simp[h0,h1,nqk,fst_R hRF,kqu hRF,hvl,hpl];repeat'(first|((first|refine hK' ?_|refine hB ?_);clear hK' hB K' B)|(apply hK';clear hK' K')|refine And.intro ?_ ?_|intro hg|(clear hK' K';omega)))|apply aqc|refine sp ?_|fail)
 ·have h1':aqy up' up'[up'[v']]=aqy up' v':=by rw [rootN_up p' hpl,rootN_up p' hvl]
  have h2':up'[up'[v']]<n:=by omega
  refine ⟨⟨up'.set v' up'[up'[v']],up'[up'[v']],hsh.1,fun w hw=>by rw [hsh.2 w hw,hr w hw],h2',?_,by simp [h0],by simp,rfl⟩,by simp;omega⟩
  rw [<-hr _ h2',h1',hr _ hv',hrv]
 ·have e:aqy up' v'=v':=by rw [cqi hvl,if_neg (by omega)]
  have e2:aqy up v=v':=by rw [<-hrv,<-hr _ hv',e]
  have:=k up' p' hr
  rw [e2] at this
  simpa using this
theorem join_ok {H:Heap} {F R n u v j:Nat} {up:List Nat} (p:Par up n) (hu:u<n) (hv:v<n) (hj:j<=100000) (hRF:R≠F) {K:AV->Heap->Prop}
  (k:∀ x up' j',Par up' n->(∀ w,w<n->aqy up' w=if aqy up w=max (aqy up u) (aqy up v) then min (aqy up u) (aqy up v) else aqy up w)->
   j'=(if aqy up u=aqy up v then j else j+1)->K x (fst H F R up' j')):aqo Tryz.prog w0 213 [.ptr F 0 0,I (u:Int),I (v:Int)] (fst H F R up j) K:=by
 refine aqf Tryz.func213 rfl Tryz.ntmps213 (ts:=[]) rfl (by simp) (by kernel_rfl) ?_
 have hru:=mqt up u
 have hrv:=mqt up v
 repeat'(first|(with_reducible (refine aqd (hK _ _ ?_);clear hK K))|(with_reducible refine vr [] fun K hK=>?_)|((with_reducible first|refine aqa fun K' hK'=>?_|refine aqb fun K' B hK' hB=>?_);simp[nqk,fst_R hRF,kqu hRF,fst_inc,imax,imin];repeat'(first|(with_reducible first|((first|refine hK' ?_|refine hB ?_);clear hK' hB K' B)|(apply hK';clear hK' K'))|((with_reducible refine root_ok p hu hRF (fun up1 p1 r1=> ?_));try simp[nqk,fst_R hRF,kqu hRF,fst_inc,imax,imin])|((with_reducible refine root_ok p1 hv hRF (fun up2 p2 r2=> ?_);have hl2:=p2.len;simp only [r1 v hv]);try simp[nqk,fst_R hRF,kqu hRF,fst_inc,imax,imin])|(with_reducible first|refine And.intro ?_ ?_|intro hg)|(clear hK' K';omega)))|(with_reducible first|apply aqc|refine sp ?_)|fail)
 ·have e:aqy up u=aqy up v:=by omega
  exact k _ up2 j p2 (fun w hw=>by rw [r2 w hw,r1 w hw,e];simp) (by rw [if_pos e])
 ·have e:aqy up u≠aqy up v:=by omega
  have hmin:min (aqy up u) (aqy up v)<max (aqy up u) (aqy up v):=by omega
  have hr2:∀ w,w<n->aqy up2 w=aqy up w:=fun w hw=>by rw [r2 w hw,r1 w hw]
  have hroot:∀ w,w<n->aqy up2 (aqy up w)=aqy up w:=fun w hw=>by
   have:=mqt up w
   rw [hr2 _ (by omega),rootN_root]
  have h1:aqy up2 (max (aqy up u) (aqy up v))=max (aqy up u) (aqy up v):=by
   rcases Nat.le_total (aqy up u) (aqy up v) with h | h
   ·rw [Nat.max_eq_right h,hroot v hv]
   ·rw [Nat.max_eq_left h,hroot u hu]
  have h2:aqy up2 (min (aqy up u) (aqy up v))=min (aqy up u) (aqy up v):=by
   rcases Nat.le_total (aqy up u) (aqy up v) with h | h
   ·rw [Nat.min_eq_left h,hroot u hu]
   ·rw [Nat.min_eq_right h,hroot v hv]
  have hjn:=rootN_join p2 (by omega) hmin h1 h2
  exact k _ _ (j+1) hjn.1 (fun w hw=>by rw [hjn.2 w hw,hr2 w hw]) (by rw [if_neg e])
theorem join_okI {H:Heap} {F R n j:Nat} {u v:Int} {up:List Nat} (p:Par up n) (hu:0<=u/\u<n) (hv:0<=v/\v<n) (hj:j<=100000) (hRF:R≠F) {K:AV->Heap->Prop}
  (k:∀ x up' j',Par up' n->(∀ w,w<n->aqy up' w=if aqy up w=max (aqy up u.toNat) (aqy up v.toNat) then min (aqy up u.toNat) (aqy up v.toNat) else aqy up w)->
   j'=(if aqy up u.toNat=aqy up v.toNat then j else j+1)->K x (fst H F R up' j')):aqo Tryz.prog w0 213 [.ptr F 0 0,I u,I v] (fst H F R up j) K:=by
 obtain ⟨u',rfl⟩:=Int.eq_ofNat_of_zero_le hu.1
 obtain ⟨v',rfl⟩:=Int.eq_ofNat_of_zero_le hv.1
 exact join_ok p (by omega) (by omega) hj hRF (by simpa using k)
end Go.Am
namespace Go.Am
open Go Go.Proofs
set_option linter.unusedVariables false
set_option linter.unusedSimpArgs false
variable {w0:World}
attribute [local irreducible] AWP aqo
attribute [local congr] aqp
def cql (n:Int) (e:Int×Int):Bool:=decide (0<=e.1)&&decide (0<=e.2)&&decide (e.1<n)&&decide (e.2<n)
def bqf (n:Int) (es:List (Int×Int)):Bool:=decide (1<=n)&&decide (n<=64)&&decide (es.length<=4096)&&es.all (cql n)
def eq2 (s:(Nat->Nat)×Nat) (e:Int×Int):(Nat->Nat)×Nat:=
 let a:=s.1 e.1.toNat
 let b:=s.1 e.2.toNat
 (fun w=>if s.1 w=max a b then min a b else s.1 w,if a=b then s.2 else s.2+1)
def aqu (es:List (Int×Int)):(Nat->Nat)×Nat:=es.foldl eq2 (id,0)
theorem mqb {es:List (Int×Int)} {k:Nat} (h:k<es.length):aqu (es.take (k+1))=eq2 (aqu (es.take k)) es[k]:=by
 unfold aqu
 rw [List.take_succ_eq_append_getElem h,List.foldl_append]
 rfl
theorem compJ_le (es:List (Int×Int)):(aqu es).2<=es.length:=by
 unfold aqu
 have:∀ (es:List (Int×Int)) (s:(Nat->Nat)×Nat),(es.foldl eq2 s).2<=s.2+es.length:=by
  intro es
  induction es with
  | nil=>intro s;simp
  | cons e es ih=>
   intro s
   have:=ih (eq2 s e)
   simp only [List.foldl_cons,List.length_cons]
   have h2:(eq2 s e).2<=s.2+1:=by simp only [eq2];split<;>omega
   omega
 simpa using this es (id,0)
theorem kqd {es:List (Int×Int)} {k:Nat} (h:k<es.length):(es.flatMap fun e=>[I e.1,I e.2])[k*2]? =some (I es[k].1)/\(es.flatMap fun e=>[I e.1,I e.2])[k*2+1]? =some (I es[k].2)/\
  ((es.flatMap fun e=>[I e.1,I e.2]).drop (k*2)).take 2=[I es[k].1,I es[k].2]:=by
 induction es generalizing k with
 | nil=>simp at h
 | cons e es ih=>
  cases k with
  | zero=>simp
  | succ k=>
   have:=ih (k:=k) (by simpa using h)
   simp only [List.flatMap_cons,List.getElem_cons_succ,Nat.succ_mul]
   refine ⟨?_,?_,?_⟩
   ·have:=this.1;simpa using this
   ·have:=this.2.1;simpa [Nat.add_right_comm] using this
   ·have:=this.2.2;simpa using this
theorem hqw (es:List (Int×Int)):(es.flatMap fun e=>[I e.1,I e.2]).length=es.length*2:=by
 induction es with
 | nil=>rfl
 | cons e es ih=>simp [ih,Nat.succ_mul]
theorem sum2 (es:List (Int×Int)):(es.map fun _=>2).sum=es.length*2:=by
 induction es with
 | nil=>rfl
 | cons e es ih=>simp [ih,Nat.succ_mul];omega
theorem graph_ret {n:Int} {es:List (Int×Int)} (he:aqz es):Ret Tryz.prog w0 223 [I n,bqy es] (B (bqf n es)):=by
 intro H
 refine aqf Tryz.func223 rfl Tryz.ntmps223 (ts:=[4]) rfl (by simp) (by kernel_rfl) ?_
 repeat'(with_reducible first|(refine sp (hK _ _ ?_);clear hK K)|refine vr [] fun K hK=>?_|(refine aqa fun K' hK'=>?_;simp[bqy];repeat'(first|(apply hK';clear hK' K')|fail))|refine sp ?_|fail)
 refine aqi (fun env h=>∃ (k:Nat),k<=es.length/\env 5=I k/\env 0=I n/\env 1=bqy es/\(es.take k).all (cql n)=true/\h=H) (fun env _=>es.length-natA (env 5)) ?_ ?_
 ·exact ⟨0,by omega,by simp,by simp,by simp [bqy],by simp,rfl⟩
 rintro env h ⟨k,hk,h5,h0,h1,ht,rfl⟩
 have hnat:natA (env 5)=k:=by simp [h5]
 rw [hnat];clear hnat
 by_cases hlt:k<es.length
 ·have hp:=kqd hlt
  have hf:(es.take (k+1)).all (cql n)=cql n es[k]:=by rw [List.take_succ_eq_append_getElem hlt,List.all_append,ht];simp
  have hno:cql n es[k]=false->bqf n es=false:=by
   intro h
   have:es.all (cql n)=false:=by rw [List.all_eq_false];exact ⟨es[k],by simp,by simp [h]⟩
   simp [bqf,this]
  repeat'(with_reducible first|(refine sp (hK _ _ ?_);clear hK K)|refine vr [] fun K hK=>?_|(refine vd [] [] mixed fun K hK=>?_)|((first|refine aqa fun K' hK'=>?_|refine aqb fun K' B hK' hB=>?_|refine aqn fun K' hK'=>?_|(apply aqk;refine aqe rfl fun K' hK'=>?_));simp[h5,h0,h1,bqy,hlt,hp.1,hp.2.1,hqw];repeat'(first|((first|refine hK' ?_|refine hB ?_);clear hK' hB K' B)|(apply hK';clear hK' K')|refine And.intro ?_ ?_|intro hg|(clear hK' K';omega)))|apply aqc|refine sp ?_|fail)
  all_goals first
   | exact ⟨⟨k+1,by omega,by simp,by simp [h0],by simp [h1],by rw [hf];simp [cql, *],rfl⟩,by simp;omega⟩
   | (have hb:=hno (by simp [cql];omega);simp [hb])
 ·have:k=es.length:=by omega
  subst this
  rw [List.take_length] at ht
  repeat'(with_reducible first|(refine sp (hK _ _ ?_);clear hK K)|refine vr [] fun K hK=>?_|((first|refine aqa fun K' hK'=>?_|refine aqb fun K' B hK' hB=>?_|(apply aqk;refine aqe rfl fun K' hK'=>?_));simp[h5,h0,h1,bqy];repeat'(first|((first|refine hK' ?_|refine hB ?_);clear hK' hB K' B)|(apply hK';clear hK' K')|refine And.intro ?_ ?_|intro hg|fail))|apply aqc|refine sp ?_|fail)
  all_goals simp [bqf,ht, *]
  all_goals omega
def ForestAt (n:Int) (es:List (Int×Int)) (H:Heap) (v:AV) (H':Heap):Prop:=
 (bqf n es=false/\v= .sc (.pointer none)/\Sub H H')\/
 (bqf n es=true/\∃ F R up,R≠F/\H F=none/\H R=none/\Par up n.toNat/\(∀ w,w<n.toNat->aqy up w=(aqu es).1 w)/\v= .ptr F 0 0/\Sub (fst H F R up (aqu es).2) H')
theorem forest_ok {n:Int} {es:List (Int×Int)} {H:Heap} (he:aqz es):aqo Tryz.prog w0 198 [I n,bqy es] H (ForestAt n es H):=by
 refine aqf Tryz.func198 rfl Tryz.ntmps198 (ts:=[4]) rfl (by simp) (by kernel_rfl) ?_
 repeat'(with_reducible first|(refine aqd (hK _ _ ?_);clear hK K)|refine vr [] fun K hK=>?_|((first|refine aqa fun K' hK'=>?_|refine aqb fun K' B hK' hB=>?_|(apply aqk;refine aqe rfl fun K' hK'=>?_));simp[bqy];repeat'(first|((first|refine hK' ?_|refine hB ?_);clear hK' hB K' B)|(apply hK';clear hK' K')|refine And.intro ?_ ?_|intro hg|(clear hK' K';omega)))|apply aqc|refine sp ?_|fail)
 rotate_left
 ·rename_i h1n hn64 R hR F
  have hRF:R≠F:=by rintro rfl;simp at hg
  have hF:H F=none:=by rw [if_neg (fun e=>hRF e.symm)] at hg;exact hg
  clear hg
  obtain ⟨m,rfl⟩:=Int.eq_ofNat_of_zero_le (show 0<=n by omega)
  simp only [ForestAt,Int.toNat_natCast]
  refine aqi (fun env h=>∃ (k:Nat),k<=m/\env 29=I k/\env 28=I m/\env 5= .ptr F 0 0/\env 0=I m/\env 1=bqy es/\h=fst H F R (List.range k++List.replicate (m-k) 0) 0) (fun env _=>m-natA (env 29)) ?_ ?_
  ·exact ⟨0,by omega,by simp,by simp,by simp,by simp,by simp [bqy],by simp [fst]⟩
  rintro env h ⟨k,hk,h29,h28,h5,h0,h1,rfl⟩
  have hnat:natA (env 29)=k:=by simp [h29]
  rw [hnat];clear hnat
  by_cases hlt:k<m
  ·obtain ⟨q,hm⟩:∃ q,m-k=q+1:=⟨m-k-1,by omega⟩
   have hm':m-(k+1)=q:=by omega
   have hs:=hqo (List.range k) q 0 k
   rw [List.length_range,<-List.range_succ] at hs
   rw [hm]
   have hfs:=kqu hRF H (List.range k++List.replicate (q+1) 0) 0 k k
   rw [hs] at hfs
   have hlen:(List.range k++List.replicate (q+1) 0).length=m:=by simp;omega
   generalize List.range k++List.replicate (q+1) 0=up at *
   rw [hlen] at hfs
   repeat'(with_reducible first|(refine aqd (hK _ _ ?_);clear hK K)|refine vr [] fun K hK=>?_|((first|refine aqa fun K' hK'=>?_|refine aqb fun K' B hK' hB=>?_);simp[h29,h28,h5,h0,h1,nqk,fst_R hRF,hfs,hlen,hlt];repeat'(first|((first|refine hK' ?_|refine hB ?_);clear hK' hB K' B)|(apply hK';clear hK' K')|refine And.intro ?_ ?_|(clear hK' K';omega)))|refine sp ?_|fail)
   exact ⟨⟨k+1,by omega,by simp,by simp [h28],by simp [h5],by simp [h0],by simp [h1],by rw [hm']⟩,by simp;omega⟩
  ·have:k=m:=by omega
   subst this
   rw [Nat.sub_self,List.replicate_zero,List.append_nil]
   repeat'(with_reducible first|(refine aqd (hK _ _ ?_);clear hK K)|refine vr [] fun K hK=>?_|((first|refine aqa fun K' hK'=>?_|refine aqb fun K' B hK' hB=>?_);simp[h29,h28,h5,h0,h1];repeat'(first|((first|refine hK' ?_|refine hB ?_);clear hK' hB K' B)|(apply hK';clear hK' K')|fail))|refine sp ?_|fail)
   have hp0:Par (List.range k) k:=⟨by simp,fun v h=>by simp⟩
   have hr0:∀ w,w<k->aqy (List.range k) w=w:=fun w hw=>by rw [cqi (by simpa using hw)];simp
   refine fqe (fun env h=>∃ (i:Nat) (up:List Nat),i<=es.length/\(es.take i).all (cql k)=true/\Par up k/\(∀ w,w<k->aqy up w=(aqu (es.take i)).1 w)/\env 42=I i/\env 41=I es.length/\env 40=bqy es/\env 0=I k/\env 5= .ptr F 0 0/\
     h=fst H F R up (aqu (es.take i)).2)
    (fun env h=>∃ (i:Nat) (up:List Nat),i<=es.length/\(es.take i).all (cql k)=true/\Par up k/\(∀ w,w<k->aqy up w=(aqu (es.take i)).1 w)/\env 42=I i/\env 41=I es.length/\env 40=bqy es/\env 0=I k/\env 5= .ptr F 0 0/\
     Sub (fst H F R up (aqu (es.take i)).2) h) (fun env _=>es.length-natA (env 42)) ?_ ?_ ?_
   ·exact ⟨0,List.range k,by omega,by simp,hp0,hr0,by simp,by simp [h1,bqy],by simp [h1,bqy],by simp [h0],by simp [h5],.refl _⟩
   clear h29 h28 h5 h0 h1
   ·rintro env h ⟨i,up,a1,a2,a3,a4,a5,a6,a7,a8,a9,s⟩ Q' q
    exact AWP.sub s (q env _ ⟨i,up,a1,a2,a3,a4,a5,a6,a7,a8,a9,rfl⟩ rfl)
   rintro env h ⟨i,up,hi,ha,p,hr,h42,h41,h40,h0,h5,rfl⟩
   have hnat:natA (env 42)=i:=by simp [h42]
   rw [hnat];clear hnat
   have hjle:=compJ_le (es.take i)
   rw [List.length_take] at hjle
   by_cases hil:i<es.length
   ·have hp:=kqd hil
    have hf:(es.take (i+1)).all (cql k)=cql k es[i]:=by rw [List.take_succ_eq_append_getElem hil,List.all_append,ha];simp
    have hno:cql k es[i]=false->bqf k es=false:=by
     intro h
     have:es.all (cql k)=false:=by rw [List.all_eq_false];exact ⟨es[i],by simp,by simp [h]⟩
     simp [bqf,this]
    repeat'(first|(with_reducible (refine aqd (hK _ _ ?_);clear hK K))|(with_reducible refine vr [] fun K hK=>?_)|((with_reducible first|refine aqa fun K' hK'=>?_|refine aqb fun K' B hK' hB=>?_|(apply aqk;refine aqe rfl fun K' hK'=>?_));simp[h42,h41,h40,h0,h5,bqy,hil,hp.1,hp.2.1,hp.2.2,hqw,sum2,nqk,fst_R hRF];repeat'(first|(with_reducible first|((first|refine hK' ?_|refine hB ?_);clear hK' hB K' B)|(apply hK';clear hK' K'))|((with_reducible refine aqo.sub (aqh (by assumption)) ?_;refine join_okI p (by omega) (by omega) (by omega) hRF (fun x up' j' p' r' e'=> ?_));try simp[h42,h41,h40,h0,h5,bqy,hil,hp.1,hp.2.1,hp.2.2,hqw,sum2,nqk,fst_R hRF])|(with_reducible first|refine And.intro ?_ ?_|intro hg)|(clear hK' K';omega)))|(with_reducible first|apply aqc|refine sp ?_)|fail)
    ·refine .inl ⟨hno (by simp [cql];omega),by simp,(sub_fst hF hR _ _).trans (aqh ?_)⟩
     assumption
    ·refine ⟨⟨i+1,up',by omega,by rw [hf];simp [cql];omega,p',?_,by simp,by simp [h41],by simp [h40],by simp [h0],by simp [h5],?_⟩,by simp;omega⟩
     ·intro w hw
      rw [r' w hw,mqb hil]
      simp only [eq2]
      rw [hr w hw,hr _ (by omega),hr _ (by omega)]
     ·rw [e',mqb hil]
      simp only [eq2]
      rw [hr _ (by omega),hr _ (by omega)]
      exact .refl _
    ·refine .inl ⟨hno (by simp [cql];omega),by simp,(sub_fst hF hR _ _).trans (aqh ?_)⟩
     assumption
   ·have:i=es.length:=by omega
    subst this
    rw [List.take_length] at *
    repeat'(with_reducible first|(refine aqd (hK _ _ ?_);clear hK K)|refine vr [] fun K hK=>?_|((first|refine aqa fun K' hK'=>?_|refine aqb fun K' B hK' hB=>?_);simp[h42,h41,h40,h0,h5];repeat'(first|((first|refine hK' ?_|refine hB ?_);clear hK' hB K' B)|(apply hK';clear hK' K')|fail))|apply aqc|refine sp ?_|fail)
    exact .inr ⟨by simp [bqf,ha];omega,F,R,up,hRF,hF,hR,by simpa using p,by simpa using hr,by simp,.refl _⟩
 ·exact .inl ⟨by simp [bqf];omega,by simp,.refl _⟩
 ·exact .inl ⟨by simp [bqf];omega,by simp,.refl _⟩
 ·exact .inl ⟨by simp [bqf];omega,by simp,.refl _⟩
theorem forest_use {n:Int} {es:List (Int×Int)} {H:Heap} {K:AV->Heap->Prop} (he:aqz es) (h0:bqf n es=false->K (.sc (.pointer none)) H)
  (h1:bqf n es=true->∀ F R up,R≠F->H F=none->H R=none->Par up n.toNat->(∀ w,w<n.toNat->aqy up w=(aqu es).1 w)->K (.ptr F 0 0) (fst H F R up (aqu es).2)):
  aqo Tryz.prog w0 198 [I n,bqy es] H K:=by
 refine (forest_ok he).drop ?_
 rintro v H' (⟨hv,rfl,s⟩ | ⟨hv,F,R,up,hRF,hF,hR,p,hr,rfl,s⟩)
 ·exact ⟨H,s,h0 hv⟩
 ·exact ⟨_,s,h1 hv F R up hRF hF hR p hr⟩
theorem rank_ret {n:Int} {es:List (Int×Int)} (he:aqz es):Ret Tryz.prog w0 174 [I n,bqy es] (I (if bqf n es then ((aqu es).2:Int) else -1)):=by
 intro H
 refine aqf Tryz.func174 rfl Tryz.ntmps174 (ts:=[4]) rfl (by simp) (by kernel_rfl) ?_
 repeat'(first|(with_reducible (refine aqd (hK _ _ ?_);clear hK K))|(with_reducible refine vr [] fun K hK=>?_)|((with_reducible first|refine aqa fun K' hK'=>?_|refine aqb fun K' B hK' hB=>?_);simp[bqy,nqk];repeat'(first|(with_reducible first|((first|refine hK' ?_|refine hB ?_);clear hK' hB K' B)|(apply hK';clear hK' K'))|((with_reducible refine forest_use he (fun hv=> ?_) (fun hv F R up hRF hF hR p hr=> ?_));try simp[bqy,nqk])|fail))|(with_reducible first|apply aqc|refine sp ?_)|fail)
 ·simp [hv]
 ·refine ⟨by simp [hv],sub_fst hF hR _ _⟩
def fq4 (n:Int) (es:List (Int×Int)):List Int:=if bqf n es then (List.range n.toNat).map fun w=>((aqu es).1 w:Int) else []
def okE (n:Int) (es:List (Int×Int)):Int:=if bqf n es then 0 else 1
theorem hqa {n:Int} {es:List (Int×Int)} (h:bqf n es=true):∃ m:Nat,n=m/\1<=m/\m<=64/\es.length<=4096:=by
 simp only [bqf,Bool.and_eq_true,decide_eq_true_eq] at h
 exact ⟨n.toNat,by omega,by omega,by omega,by omega⟩
end Go.Am
namespace Go.Am
open Go Go.Proofs
set_option linter.unusedVariables false
set_option linter.unusedSimpArgs false
variable {w0:World}
attribute [local irreducible] AWP aqo
attribute [local congr] aqp
def bq5 (c:Nat->Nat) (k:Nat):List Nat:=(List.range k).filter fun r=>c r=r
def fqp (c:Nat->Nat) (k r:Nat):List Int:=((List.range k).filter fun w=>c w=r).map fun w:Nat=>(w:Int)
def partsK (c:Nat->Nat) (k:Nat):List (List Int):=(bq5 c k).map (fqp c k)
theorem rootsK_succ (c:Nat->Nat) (k:Nat):bq5 c (k+1)=bq5 c k++if c k=k then [k] else []:=by
 simp only [bq5,List.range_succ,List.filter_append,List.filter_cons,List.filter_nil]
 split<;>simp_all
theorem partK_succ (c:Nat->Nat) (k r:Nat):fqp c (k+1) r=fqp c k r++if c k=r then [(k:Int)] else []:=by
 simp only [fqp,List.range_succ,List.filter_append,List.filter_cons,List.filter_nil,List.map_append]
 split<;>simp_all
theorem mem_rootsK {c:Nat->Nat} {k r:Nat}:r∈bq5 c k↔r<k/\c r=r:=by simp [bq5]
theorem rootsK_nodup (c:Nat->Nat) (k:Nat):(bq5 c k).Nodup:=List.Pairwise.filter _ List.nodup_range
theorem mqw (c:Nat->Nat) (k:Nat):(partsK c k).length=(bq5 c k).length:=by simp [partsK]
theorem rootsK_le (c:Nat->Nat) (k:Nat):(bq5 c k).length<=k:=by
 have:=List.length_filter_le (fun r=>decide (c r=r)) (List.range k)
 simpa [bq5] using this
theorem partK_le (c:Nat->Nat) (k r:Nat):(fqp c k r).length<=k:=by
 have:=List.length_filter_le (fun w=>decide (c w=r)) (List.range k)
 simpa [fqp] using this
def hqu (n:Int) (es:List (Int×Int)):List (List Int):=if bqf n es then partsK (aqu es).1 n.toNat else []
end Go.Am
namespace Go.Am
open Go Go.Proofs
set_option linter.unusedVariables false
set_option linter.unusedSimpArgs false
variable {w0:World}
attribute [local irreducible] AWP aqo
attribute [local congr] aqp
theorem c1:fq4 3 [(0,2)]=[0,1,0]:=by rfl
theorem c2:okE 3 [(0,2)]=0:=by rfl
theorem c3:hqu 3 [(0,2)]=[[0,2],[1]]:=by rfl
theorem c4:okE 3 [(0,3)]=1:=by rfl
theorem c5:okE 0 []=1:=by rfl
theorem c6:(if bqf 3 [(0,2)] then ((aqu [(0,2)]).2:Int) else -1)=1:=by rfl
end Go.Am
namespace Go.Am
open Go
set_option linter.unusedVariables false
set_option linter.unusedSimpArgs false
structure Comp (es:List (Int×Int)) (c:Nat->Nat):Prop where
 le:∀ w,c w<=w
 idem:∀ w,c (c w)=c w
 edge:∀ e∈es,c e.1.toNat=c e.2.toNat
 min:∀ f:Nat->Nat,(∀ e∈es,f e.1.toNat=f e.2.toNat)->∀ w,f (c w)=f w
theorem Comp.uniq {es es':List (Int×Int)} {c c':Nat->Nat} (h:Comp es c) (h':Comp es' c') (a:∀ e∈es,c' e.1.toNat=c' e.2.toNat) (b:∀ e∈es',c e.1.toNat=c e.2.toNat):c=c':=by
 funext w
 have h1:=h.min c' a w
 have h2:=h'.min c b w
 have h3:=h.le (c' w)
 have h4:=h'.le (c w)
 omega
theorem comp_step {es:List (Int×Int)} {c:Nat->Nat} {j:Nat} (h:Comp es c) (e:Int×Int):Comp (es++[e]) (eq2 (c,j) e).1:=by
 have ia:=h.idem e.1.toNat
 have ib:=h.idem e.2.toNat
 have key:∀ f:Nat->Nat,(∀ x∈es++[e],f x.1.toNat=f x.2.toNat)->f (c e.1.toNat)=f (c e.2.toNat):=by
  intro f hf
  have h1:=h.min f (fun x hx=>hf x (by simp [hx]))
  rw [h1,h1]
  exact hf e (by simp)
 refine ⟨fun w=> ?_,fun w=> ?_,fun x hx=> ?_,fun f hf w=> ?_⟩
 ·simp only [eq2]
  have:=h.le w
  split<;>omega
 ·simp only [eq2]
  have hw:=h.idem w
  have hm:c (Min.min (c e.1.toNat) (c e.2.toNat))=Min.min (c e.1.toNat) (c e.2.toNat):=by
   rcases Nat.le_total (c e.1.toNat) (c e.2.toNat) with h | h
   ·rw [Nat.min_eq_left h];exact ia
   ·rw [Nat.min_eq_right h];exact ib
  by_cases e1:c w=Max.max (c e.1.toNat) (c e.2.toNat)
  ·rw [if_pos e1,hm];split<;>rfl
  ·rw [if_neg e1,hw,if_neg e1]
 ·simp only [eq2]
  rcases List.mem_append.1 hx with hx | hx
  ·rw [h.edge x hx]
  ·simp at hx;subst hx
   split<;>split<;>omega
 ·have h1:=h.min f (fun x hx=>hf x (by simp [hx]))
  have h2:=key f hf
  simp only [eq2]
  by_cases e1:c w=Max.max (c e.1.toNat) (c e.2.toNat)
  ·rw [if_pos e1,<-h1 w,e1]
   rcases Nat.le_total (c e.1.toNat) (c e.2.toNat) with h | h
   ·rw [Nat.min_eq_left h,Nat.max_eq_right h,h2]
   ·rw [Nat.min_eq_right h,Nat.max_eq_left h,h2]
  ·rw [if_neg e1,h1]
theorem dqa (es:List (Int×Int)) (e:Int×Int):aqu (es++[e])=eq2 (aqu es) e:=by simp [aqu,List.foldl_append]
theorem eq3 {α:Type} {p:List α->Prop} (h0:p []) (h1:∀ l x,p l->p (l++[x])) (l:List α):p l:=by
 have:∀ n,p (l.take n):=by
  intro n
  induction n with
  | zero=>simpa using h0
  | succ n ih=>
   by_cases h:n<l.length
   ·rw [List.take_succ_eq_append_getElem h];exact h1 _ _ ih
   ·rw [List.take_of_length_le (by omega)] at ih ⊢;exact ih
 simpa using this l.length
theorem cqt (es:List (Int×Int)):Comp es (aqu es).1:=by
 induction es using eq3 with
 | h0=>exact ⟨fun w=>Nat.le_refl _,fun w=>rfl,fun e he=>by simp at he,fun f _ w=>rfl⟩
 | h1 es e ih=>
  rw [dqa]
  exact comp_step (j:=(aqu es).2) ih e
theorem compJ_mem {es es':List (Int×Int)} (h:∀ e,e∈es↔e∈es'):(aqu es).1=(aqu es').1:=
 (cqt es).uniq (cqt es') (fun e he=>(cqt es').edge e ((h e).1 he)) (fun e he=>(cqt es).edge e ((h e).2 he))
abbrev mqe (n:Nat) (es:List (Int×Int)):Prop:=∀ e∈es,e.1.toNat<n/\e.2.toNat<n
theorem belowE_of {n:Nat} {es:List (Int×Int)} (h:bqf n es=true):mqe n es:=by
 simp only [bqf,Bool.and_eq_true,decide_eq_true_eq,List.all_eq_true,cql] at h
 intro e he
 have:=h.2 e he
 omega
theorem filter_ne {l:List Nat} {x:Nat} (hd:l.Nodup) (hx:x∈l):(l.filter fun r=>decide (r≠x)).length+1=l.length:=by
 induction l with
 | nil=>simp at hx
 | cons y l ih=>
  rw [List.nodup_cons] at hd
  rw [List.filter_cons]
  by_cases e:y=x
  ·subst e
   rw [if_neg (by simp)]
   rw [List.filter_eq_self.2]
   ·simp
   ·intro a ha;simp only [decide_eq_true_eq];intro e;subst e;exact hd.1 ha
  ·rw [if_pos (by simpa using e)]
   simp only [List.length_cons]
   rw [ih hd.2 ((List.mem_cons.1 hx).resolve_left fun h=>e h.symm)]
theorem gq7 {n:Nat} (es:List (Int×Int)):mqe n es->(aqu es).2+(bq5 (aqu es).1 n).length=n:=by
 induction es using eq3 with
 | h0=>intro _;simp only [aqu,bq5,List.foldl_nil,id,decide_true];rw [List.filter_eq_self.2 (fun _ _=>rfl)];simp
 | h1 es e ih=>
  intro hb
  have ih:=ih fun x hx=>hb x (by simp [hx])
  have hc:=cqt es
  obtain ⟨hu,hv⟩:=hb e (by simp)
  rw [dqa]
  generalize aqu es=s at *
  obtain ⟨c,j⟩:=s
  simp only [eq2] at *
  have lu:=hc.le e.1.toNat
  have lv:=hc.le e.2.toNat
  have iu:=hc.idem e.1.toNat
  have iv:=hc.idem e.2.toNat
  by_cases hab:c e.1.toNat=c e.2.toNat
  ·rw [if_pos hab]
   have:(fun w=>if c w=max (c e.1.toNat) (c e.2.toNat) then min (c e.1.toNat) (c e.2.toNat) else c w)=c:=by
    funext w
    rw [hab,Nat.max_self,Nat.min_self]
    split<;>simp_all
   rw [this];exact ih
  ·rw [if_neg hab]
   generalize c e.1.toNat=a at *
   generalize c e.2.toNat=b at *
   have hm:max a b∈bq5 c n:=by
    rw [mem_rootsK]
    rcases Nat.le_total a b with h | h
    ·rw [Nat.max_eq_right h];exact ⟨by omega,iv⟩
    ·rw [Nat.max_eq_left h];exact ⟨by omega,iu⟩
   have:bq5 (fun w=>if c w=max a b then min a b else c w) n=(bq5 c n).filter fun r=>decide (r≠max a b):=by
    simp only [bq5,List.filter_filter]
    apply List.filter_congr
    intro r _
    have:(if c r=max a b then min a b else c r)=r↔r≠max a b/\c r=r:=by
     split
     ·rename_i h
      constructor
      ·intro h2
       have hmm:c (min a b)=min a b:=by
        rcases Nat.le_total a b with h | h
        ·rw [Nat.min_eq_left h];exact iu
        ·rw [Nat.min_eq_right h];exact iv
       rw [h2] at hmm
       omega
      ·intro h2;omega
     ·rename_i h
      constructor
      ·intro h2;exact ⟨fun e2=>h (by omega),h2⟩
      ·intro h2;exact h2.2
    simp only [this,Bool.decide_and]
   rw [this]
   have:=filter_ne (rootsK_nodup c n) hm
   omega
theorem hqs {n:Nat} {es es':List (Int×Int)} (hb:mqe n es) (h:∀ e,e∈es↔e∈es'):(aqu es).2=(aqu es').2:=by
 have h1:=gq7 es hb
 have h2:=gq7 (n:=n) es' (fun e he=>hb e ((h e).2 he))
 rw [compJ_mem h] at h1
 omega
theorem rank_snoc (es:List (Int×Int)) (e:Int×Int):(aqu es).2<=(aqu (es++[e])).2/\(aqu (es++[e])).2<=(aqu es).2+1:=by
 rw [dqa]
 simp only [eq2]
 split<;>omega
def relE (l:Nat->Nat) (e:Int×Int):Nat->Nat:=fun w=>if w=e.1.toNat\/w=e.2.toNat then min (l e.1.toNat) (l e.2.toNat) else l w
def rnd (es:List (Int×Int)) (l:Nat->Nat):Nat->Nat:=es.foldl relE l
def rnds (es:List (Int×Int)):Nat->Nat->Nat
 | 0=>id
 | k+1=>rnd es (rnds es k)
structure Lab (c l:Nat->Nat):Prop where
 le:∀ w,l w<=w
 same:∀ w,c (l w)=c w
theorem relE_lab {c l:Nat->Nat} (h:Lab c l) {e:Int×Int} (he:c e.1.toNat=c e.2.toNat) (hle:∀ w,c w<=w):Lab c (relE l e)/\(∀ w,l w=c w->relE l e w=c w)/\
  (l e.1.toNat=c e.1.toNat->relE l e e.2.toNat=c e.2.toNat)/\(l e.2.toNat=c e.2.toNat->relE l e e.1.toNat=c e.1.toNat):=by
 have lu:=h.le e.1.toNat
 have lv:=h.le e.2.toNat
 have su:=h.same e.1.toNat
 have sv:=h.same e.2.toNat
 have hu:=hle (l e.1.toNat)
 have hv:=hle (l e.2.toNat)
 have hm:c (min (l e.1.toNat) (l e.2.toNat))=c e.1.toNat:=by
  rcases Nat.le_total (l e.1.toNat) (l e.2.toNat) with h | h
  ·rw [Nat.min_eq_left h];exact su
  ·rw [Nat.min_eq_right h,sv,he]
 refine ⟨⟨fun w=> ?_,fun w=> ?_⟩,fun w hw=> ?_,fun hw=> ?_,fun hw=> ?_⟩
 ·simp only [relE]
  split
  ·rename_i hw;rcases hw with rfl | rfl<;>omega
  ·exact h.le w
 ·simp only [relE]
  split
  ·rename_i hw
   rw [hm]
   rcases hw with rfl | rfl
   ·rfl
   ·exact he
  ·exact h.same w
 ·simp only [relE]
  split
  ·rename_i hw'
   rcases hw' with rfl | rfl<;>omega
  ·exact hw
 ·unfold relE;rw [if_pos (.inr rfl)];omega
 ·unfold relE;rw [if_pos (.inl rfl)];omega
theorem rnd_lab {c:Nat->Nat} (hle:∀ w,c w<=w) (es:List (Int×Int)):∀ l,Lab c l->(∀ e∈es,c e.1.toNat=c e.2.toNat)->Lab c (rnd es l)/\(∀ w,l w=c w->rnd es l w=c w)/\
  ∀ e∈es,(l e.1.toNat=c e.1.toNat->rnd es l e.2.toNat=c e.2.toNat)/\(l e.2.toNat=c e.2.toNat->rnd es l e.1.toNat=c e.1.toNat):=by
 induction es with
 | nil=>intro l h _;exact ⟨h,fun w hw=>hw,fun e he=>by simp at he⟩
 | cons e es ih=>
  intro l h hE
  obtain ⟨h1,h2,h3,h4⟩:=relE_lab h (hE e (by simp)) hle
  obtain ⟨g1,g2,g3⟩:=ih _ h1 (fun x hx=>hE x (by simp [hx]))
  refine ⟨g1,fun w hw=>g2 w (h2 w hw),fun x hx=> ?_⟩
  rcases List.mem_cons.1 hx with rfl | hx
  ·exact ⟨fun a=>g2 _ (h3 a),fun a=>g2 _ (h4 a)⟩
  ·exact ⟨fun a=>(g3 x hx).1 (h2 _ a),fun a=>(g3 x hx).2 (h2 _ a)⟩
def goodN (c l:Nat->Nat) (n:Nat):Nat:=((List.range n).filter fun w=>decide (l w=c w)).length
theorem gq5 {α:Type} {p q:α->Bool} (h:∀ x,p x=true->q x=true) {l:List α} {x:α} (hx:x∈l) (hp:p x=false) (hq:q x=true):(l.filter p).length<(l.filter q).length:=by
 have hle:∀ l:List α,(l.filter p).length<=(l.filter q).length:=by
  intro l
  induction l with
  | nil=>simp
  | cons y l ih=>
   simp only [List.filter_cons]
   cases h1:p y with
   | true=>rw [h y h1];simp [ih]
   | false=>cases q y<;>simp<;>omega
 induction l with
 | nil=>simp at hx
 | cons y l ih=>
  have:=hle l
  simp only [List.filter_cons]
  rcases List.mem_cons.1 hx with rfl | hx
  ·rw [hp,hq];simp;omega
  ·have:=ih hx
   cases h1:p y with
   | true=>rw [h y h1];simp;omega
   | false=>cases q y<;>simp<;>omega
theorem rnds_lab (es:List (Int×Int)) (k:Nat):Lab (aqu es).1 (rnds es k):=by
 induction k with
 | zero=>exact ⟨fun w=>Nat.le_refl _,fun w=>rfl⟩
 | succ k ih=>exact (rnd_lab (cqt es).le es _ ih (cqt es).edge).1
theorem rnds_grow (es:List (Int×Int)) {n:Nat} (hb:mqe n es) (k:Nat):min k n<=goodN (aqu es).1 (rnds es k) n:=by
 induction k with
 | zero=>simp
 | succ k ih=>
  have hc:=cqt es
  have hl:=rnds_lab es k
  obtain ⟨h1,h2,h3⟩:=rnd_lab hc.le es _ hl hc.edge
  by_cases hall:∀ w,w<n->rnd es (rnds es k) w=(aqu es).1 w
  ·have:goodN (aqu es).1 (rnds es (k+1)) n=n:=by
    unfold goodN
    rw [List.filter_eq_self.2]
    ·simp
    ·intro w hw;exact decide_eq_true (hall w (by simpa using hw))
   omega
  ·-- a vertex that is told for the first time
   have:∃ w,w<n/\rnds es k w≠(aqu es).1 w/\rnds es (k+1) w=(aqu es).1 w:=by
    refine Classical.byContradiction fun hno=>hall fun w hw=> ?_
    have hsame:∀ w,w<n->rnds es (k+1) w=(aqu es).1 w->rnds es k w=(aqu es).1 w:=fun w hw h=>Classical.byContradiction fun h'=>hno ⟨w,hw,h',h⟩
    have hf:=hc.min (fun w=>if rnds es k w=(aqu es).1 w then 1 else 0) (fun e he=>by
     obtain ⟨hu,hv⟩:=hb e he
     have a:=(h3 e he).1
     have b:=(h3 e he).2
     by_cases hx:rnds es k e.1.toNat=(aqu es).1 e.1.toNat
     ·rw [if_pos hx,if_pos (hsame _ hv (a hx))]
     ·rw [if_neg hx,if_neg (fun hy=>hx (hsame _ hu (b hy)))]) w
    have hr:rnds es k ((aqu es).1 w)=(aqu es).1 ((aqu es).1 w):=by
     have:=hl.le ((aqu es).1 w)
     have h5:=hl.same ((aqu es).1 w)
     have h6:=hc.le (rnds es k ((aqu es).1 w))
     have h7:=hc.idem w
     omega
    rw [if_pos hr] at hf
    have:rnds es k w=(aqu es).1 w:=by
     refine Classical.byContradiction fun h=> ?_
     rw [if_neg h] at hf
     omega
    exact h2 w this
   obtain ⟨w,hw,hn,hy⟩:=this
   have:=gq5 (p:=fun w=>decide (rnds es k w=(aqu es).1 w)) (q:=fun w=>decide (rnds es (k+1) w=(aqu es).1 w)) (l:=List.range n) (x:=w)
    (fun x hx=>by simp only [decide_eq_true_eq] at hx ⊢;exact h2 x hx) (by simpa using hw) (by simpa using hn) (by simpa using hy)
   unfold goodN at ih ⊢
   omega
theorem rnds_comp (es:List (Int×Int)) {n:Nat} (hb:mqe n es) {w:Nat} (hw:w<n):rnds es n w=(aqu es).1 w:=by
 have h:=rnds_grow es hb n
 rw [Nat.min_self] at h
 refine Classical.byContradiction fun hno=> ?_
 have:=gq5 (p:=fun w=>decide (rnds es n w=(aqu es).1 w)) (q:=fun _=>true) (l:=List.range n) (x:=w) (fun _ _=>rfl) (by simpa using hw) (by simpa using hno) rfl
 have h2:((List.range n).filter fun _=>true).length=n:=by rw [List.filter_eq_self.2 (fun _ _=>rfl)];simp
 unfold goodN at h
 omega
end Go.Am
namespace Go.Am
open Go
set_option linter.unusedVariables false
set_option linter.unusedSimpArgs false
structure aq3 (l:List Int):Prop where
 up:l.Pairwise (· < ·)
 ok:∀ x∈l,0<=x/\x<=1099511627776
theorem rises_iff' {l:List Int} {last:Int}:aqw last l=true↔l.Pairwise (· < ·)/\∀ x∈l,last<x/\x<=1099511627776:=by
 induction l generalizing last with
 | nil=>simp [aqw]
 | cons y l ih=>
  simp only [aqw,Bool.and_eq_true,decide_eq_true_eq,ih,List.pairwise_cons,List.mem_cons]
  constructor
  ·rintro ⟨⟨h1,h2⟩,h3,h4⟩
   exact ⟨⟨fun x hx=>(h4 x hx).1,h3⟩,fun x hx=>hx.elim (fun e=>by subst e;exact ⟨h1,h2⟩) fun hx=>⟨by have:=(h4 x hx).1;omega,(h4 x hx).2⟩⟩
  ·rintro ⟨⟨h1,h2⟩,h3⟩
   exact ⟨⟨(h3 y (.inl rfl)).1,(h3 y (.inl rfl)).2⟩,h2,fun x hx=>⟨h1 x hx,(h3 x (.inr hx)).2⟩⟩
theorem aqs {l:List Int}:aqw (-1) l=true↔aq3 l:=by
 rw [rises_iff']
 exact ⟨fun h=>⟨h.1,fun x hx=>by have:=h.2 x hx;omega⟩,fun h=>⟨h.up,fun x hx=>by have:=h.ok x hx;omega⟩⟩
theorem cqu {a b:List Int} (ha:a.Pairwise (· < ·)) (hb:b.Pairwise (· < ·)) (h:∀ x,x∈a↔x∈b):a=b:=by
 induction a generalizing b with
 | nil=>
  cases b with
  | nil=>rfl
  | cons y b=>have:=(h y).2 (by simp);simp at this
 | cons x a ih=>
  cases b with
  | nil=>have:=(h x).1 (by simp);simp at this
  | cons y b=>
   rw [List.pairwise_cons] at ha hb
   have e:x=y:=by
    rcases List.mem_cons.1 ((h x).1 (by simp)) with e | e
    ·exact e
    ·rcases List.mem_cons.1 ((h y).2 (by simp)) with e' | e'
     ·exact e'.symm
     ·have:=ha.1 y e';have:=hb.1 x e;omega
   subst e
   congr 1
   refine ih ha.2 hb.2 fun z=> ?_
   constructor
   ·intro hz
    rcases List.mem_cons.1 ((h z).1 (by simp [hz])) with e | e
    ·subst e;have:=ha.1 z hz;omega
    ·exact e
   ·intro hz
    rcases List.mem_cons.1 ((h z).2 (by simp [hz])) with e | e
    ·subst e;have:=hb.1 z hz;omega
    ·exact e
theorem aq3.ext {a b:List Int} (ha:aq3 a) (hb:aq3 b) (h:∀ x,x∈a↔x∈b):a=b:=cqu ha.up hb.up h
theorem aq3.nil:aq3 []:=⟨.nil,by simp⟩
theorem aq3.one {x:Int} (h:0<=x/\x<=1099511627776):aq3 [x]:=⟨by simp,by simpa using h⟩
theorem aq3.filter {a:List Int} (h:aq3 a) (p:Int->Bool):aq3 (a.filter p):=⟨h.up.filter p,fun x hx=>h.ok x (List.mem_filter.1 hx).1⟩
theorem aq3.nodup {a:List Int} (h:aq3 a):a.Nodup:=h.up.imp fun h e=>by omega
theorem dqh (n:Nat):(upto n).Pairwise (· < ·):=by
 unfold upto
 rw [List.pairwise_map]
 exact List.pairwise_lt_range.imp fun h=>by simp only [Int.ofNat_eq_natCast];omega
theorem cqd {n:Nat} (h:n<=1099511627776):aq3 (upto n):=⟨dqh n,fun x hx=>by have:=aqq.1 hx;omega⟩
theorem jq0 {l:List Int} {n:Nat} (h:l.Pairwise (· < ·)) (hb:∀ x∈l,0<=x/\x<n):l.length<=n:=by
 have:∀ (l:List Int) (m:Int),l.Pairwise (· < ·)->(∀ x∈l,m<=x/\x<n)->m<=n->m+l.length<=n:=by
  intro l
  induction l with
  | nil=>intro m _ _ h;simpa using h
  | cons x l ih=>
   intro m hp hm hmn
   rw [List.pairwise_cons] at hp
   have:=hm x (by simp)
   have:=ih (x+1) hp.2 (fun y hy=>⟨by have:=hp.1 y hy;omega,(hm y (by simp [hy])).2⟩) (by omega)
   simp only [List.length_cons]
   omega
 have:=this l 0 h hb (by omega)
 omega
theorem jqq {x z:Int} {l:List Int}:z∈insL x l↔z=x\/z∈l:=by
 induction l with
 | nil=>simp [insL]
 | cons y l ih=>
  rw [insL]
  split
  ·simp
  ·simp only [List.mem_cons,ih]
   constructor
   ·rintro (h | h | h)<;>simp [h]
   ·rintro (h | h | h)<;>simp [h]
theorem up_insL {x:Int} {l:List Int} (h:l.Pairwise (· < ·)) (hx:x∉l):(insL x l).Pairwise (· < ·):=by
 induction l with
 | nil=>simp [insL]
 | cons y l ih=>
  rw [List.pairwise_cons] at h
  simp only [List.mem_cons,not_or] at hx
  rw [insL]
  split
  ·rename_i hxy
   rw [List.pairwise_cons,List.pairwise_cons]
   refine ⟨fun z hz=> ?_,h⟩
   rcases List.mem_cons.1 hz with rfl | hz
   ·exact hxy
   ·have:=h.1 z hz;omega
  ·rename_i hxy
   rw [List.pairwise_cons]
   refine ⟨fun z hz=> ?_,ih h.2 hx.2⟩
   rcases jqq.1 hz with rfl | hz
   ·have:=hx.1;omega
   ·exact h.1 z hz
theorem dqr (l:List Int):aq3 (cq3 l)/\∀ x,x∈cq3 l↔x∈l/\0<=x/\x<=1099511627776:=by
 have:∀ (l:List Int) (out:List Int),aq3 out->aq3 (l.foldl (fun out x=>if x<0\/1099511627776<x\/x∈out then out else insL x out) out)/\
   ∀ x,x∈(l.foldl (fun out x=>if x<0\/1099511627776<x\/x∈out then out else insL x out) out)↔x∈out\/x∈l/\0<=x/\x<=1099511627776:=by
  intro l
  induction l with
  | nil=>intro out h;exact ⟨h,by simp⟩
  | cons y l ih=>
   intro out h
   simp only [List.foldl_cons]
   by_cases hy:y<0\/1099511627776<y\/y∈out
   ·rw [if_pos hy]
    obtain ⟨h1,h2⟩:=ih out h
    refine ⟨h1,fun x=> ?_⟩
    rw [h2]
    constructor
    ·rintro (h | h)
     ·exact .inl h
     ·exact .inr ⟨by simp [h.1],h.2⟩
    ·rintro (h | ⟨h,hb⟩)
     ·exact .inl h
     ·rcases List.mem_cons.1 h with rfl | h
      ·rcases hy with hy | hy | hy
       ·omega
       ·omega
       ·exact .inl hy
      ·exact .inr ⟨h,hb⟩
   ·rw [if_neg hy]
    have hyo:y∉out:=fun h=>hy (.inr (.inr h))
    obtain ⟨h1,h2⟩:=ih (insL y out) ⟨up_insL h.up hyo,fun x hx=>by rcases jqq.1 hx with rfl | hx;(· omega);(· exact h.ok x hx)⟩
    refine ⟨h1,fun x=> ?_⟩
    rw [h2,jqq]
    constructor
    ·rintro ((h | h) | h)
     ·subst h;exact .inr ⟨by simp,by omega⟩
     ·exact .inl h
     ·exact .inr ⟨by simp [h.1],h.2⟩
    ·rintro (h | ⟨h,hb⟩)
     ·exact .inl (.inr h)
     ·rcases List.mem_cons.1 h with rfl | h
      ·exact .inl (.inl rfl)
      ·exact .inr ⟨h,hb⟩
 obtain ⟨h1,h2⟩:=this l [] .nil
 exact ⟨h1,fun x=>by rw [cq3,h2];simp⟩
theorem bq2 {a b:List Int} (ha:aq3 a) (hb:aq3 b):aq3 (bql a b)/\∀ x,x∈bql a b↔x∈a\/x∈b:=by
 have e:bql a b=cq3 (a++b):=by rw [bql,aqs.2 ha,aqs.2 hb];rfl
 rw [e]
 refine ⟨(dqr _).1,fun x=> ?_⟩
 rw [(dqr _).2,List.mem_append]
 constructor
 ·exact fun h=>h.1
 ·rintro (h | h)
  ·exact ⟨.inl h,ha.ok x h⟩
  ·exact ⟨.inr h,hb.ok x h⟩
theorem gqy (l r c:Bool) (a b:List Int):a.Pairwise (· < ·)->b.Pairwise (· < ·)->(bq0 l r c a b).Pairwise (· < ·)/\
  ∀ x,x∈bq0 l r c a b↔(x∈a/\x∉b/\l=true)\/(x∈b/\x∉a/\r=true)\/(x∈a/\x∈b/\c=true):=by
 have cons:∀ (t:Bool) (x:Int) (L:List Int),(∀ y∈L,x<y)->L.Pairwise (· < ·)->(if t=true then x::L else L).Pairwise (· < ·):=by
  intro t x L h1 h2
  cases t
  ·exact h2
  ·exact List.pairwise_cons.2 ⟨h1,h2⟩
 have memc:∀ (t:Bool) (x z:Int) (L:List Int),z∈(if t=true then x::L else L)↔(t=true/\z=x)\/z∈L:=by
  intro t x z L
  cases t<;>simp
 fun_induction bq0 l r c a b with
 | case1=>intro _ _;simp
 | case2 y bs hr ih=>
  intro ha hb
  obtain ⟨h1,h2⟩:=ih ha (List.pairwise_cons.1 hb).2
  refine ⟨List.pairwise_cons.2 ⟨fun z hz=> ?_,h1⟩,fun x=> ?_⟩
  ·have:=(h2 z).1 hz
   simp at this
   exact (List.pairwise_cons.1 hb).1 z this.1
  ·rw [List.mem_cons,h2];simp [hr]
 | case3 y bs hr ih=>
  intro ha hb
  obtain ⟨h1,h2⟩:=ih ha (List.pairwise_cons.1 hb).2
  refine ⟨h1,fun x=> ?_⟩
  rw [h2];simp [hr]
 | case4 x xs hl ih=>
  intro ha hb
  obtain ⟨h1,h2⟩:=ih (List.pairwise_cons.1 ha).2 hb
  refine ⟨List.pairwise_cons.2 ⟨fun z hz=> ?_,h1⟩,fun z=> ?_⟩
  ·have:=(h2 z).1 hz
   simp at this
   exact (List.pairwise_cons.1 ha).1 z this.1
  ·rw [List.mem_cons,h2];simp [hl]
 | case5 x xs hl ih=>
  intro ha hb
  obtain ⟨h1,h2⟩:=ih (List.pairwise_cons.1 ha).2 hb
  refine ⟨h1,fun z=> ?_⟩
  rw [h2];simp [hl]
 | case6 x xs y bs hxy hl ih=>
  intro ha hb
  obtain ⟨h1,h2⟩:=ih (List.pairwise_cons.1 ha).2 hb
  have ga:=(List.pairwise_cons.1 ha).1
  have gb:=(List.pairwise_cons.1 hb).1
  refine ⟨List.pairwise_cons.2 ⟨fun z hz=> ?_,h1⟩,fun z=> ?_⟩
  ·have hz:=(h2 z).1 hz
   have:z∈xs\/z=y\/z∈bs:=by
    simp only [List.mem_cons] at hz
    rcases hz with h | h | h<;>simp [h]
   rcases this with h | h | h
   ·exact ga z h
   ·omega
   ·have:=gb z h;omega
  ·rw [List.mem_cons,h2]
   have hx1:x∉xs:=fun h=>by have:=ga x h;omega
   have hx2:x∉bs:=fun h=>by have:=gb x h;omega
   by_cases e:z=x
   ·subst e;simp [hx2,hl,show z≠y by omega]
   ·simp [e]
 | case7 x xs y bs hxy hl ih=>
  intro ha hb
  obtain ⟨h1,h2⟩:=ih (List.pairwise_cons.1 ha).2 hb
  have ga:=(List.pairwise_cons.1 ha).1
  have gb:=(List.pairwise_cons.1 hb).1
  refine ⟨h1,fun z=> ?_⟩
  rw [h2]
  have hx1:x∉xs:=fun h=>by have:=ga x h;omega
  have hx2:x∉bs:=fun h=>by have:=gb x h;omega
  by_cases e:z=x
  ·subst e;simp [hx1,hx2,hl,show z≠y by omega]
  ·simp [e]
 | case8 x xs y bs h0 hxy hr ih=>
  intro ha hb
  obtain ⟨h1,h2⟩:=ih ha (List.pairwise_cons.1 hb).2
  have ga:=(List.pairwise_cons.1 ha).1
  have gb:=(List.pairwise_cons.1 hb).1
  refine ⟨List.pairwise_cons.2 ⟨fun z hz=> ?_,h1⟩,fun z=> ?_⟩
  ·have hz:=(h2 z).1 hz
   have:(z=x\/z∈xs)\/z∈bs:=by
    simp only [List.mem_cons] at hz
    rcases hz with h | h | h<;>simp [h]
   rcases this with (h | h) | h
   ·omega
   ·have:=ga z h;omega
   ·exact gb z h
  ·rw [List.mem_cons,h2]
   have hx1:y∉xs:=fun h=>by have:=ga y h;omega
   have hx2:y∉bs:=fun h=>by have:=gb y h;omega
   by_cases e:z=y
   ·subst e;simp [hx1,hr,show z≠x by omega]
   ·simp [e]
 | case9 x xs y bs h0 hxy hr ih=>
  intro ha hb
  obtain ⟨h1,h2⟩:=ih ha (List.pairwise_cons.1 hb).2
  have ga:=(List.pairwise_cons.1 ha).1
  have gb:=(List.pairwise_cons.1 hb).1
  refine ⟨h1,fun z=> ?_⟩
  rw [h2]
  have hx1:y∉xs:=fun h=>by have:=ga y h;omega
  have hx2:y∉bs:=fun h=>by have:=gb y h;omega
  by_cases e:z=y
  ·subst e;simp [hx1,hx2,hr,show z≠x by omega]
  ·simp [e]
 | case10 x xs y bs h0 h0' hc ih=>
  intro ha hb
  have exy:y=x:=by omega
  subst exy
  obtain ⟨h1,h2⟩:=ih (List.pairwise_cons.1 ha).2 (List.pairwise_cons.1 hb).2
  have ga:=(List.pairwise_cons.1 ha).1
  have gb:=(List.pairwise_cons.1 hb).1
  refine ⟨List.pairwise_cons.2 ⟨fun z hz=> ?_,h1⟩,fun z=> ?_⟩
  ·have hz:=(h2 z).1 hz
   have:z∈xs\/z∈bs:=by rcases hz with h | h | h<;>simp [h]
   rcases this with h | h
   ·exact ga z h
   ·exact gb z h
  ·rw [List.mem_cons,h2]
   have hx1:y∉xs:=fun h=>by have:=ga y h;omega
   have hx2:y∉bs:=fun h=>by have:=gb y h;omega
   by_cases e:z=y
   ·subst e;simp [hc]
   ·simp [e]
 | case11 x xs y bs h0 h0' hc ih=>
  intro ha hb
  have exy:y=x:=by omega
  subst exy
  obtain ⟨h1,h2⟩:=ih (List.pairwise_cons.1 ha).2 (List.pairwise_cons.1 hb).2
  have ga:=(List.pairwise_cons.1 ha).1
  have gb:=(List.pairwise_cons.1 hb).1
  refine ⟨h1,fun z=> ?_⟩
  rw [h2]
  have hx1:y∉xs:=fun h=>by have:=ga y h;omega
  have hx2:y∉bs:=fun h=>by have:=gb y h;omega
  by_cases e:z=y
  ·subst e;simp [hx1,hx2,hc]
  ·simp [e]
section
variable {a b:List Int} (ha:aq3 a) (hb:aq3 b)
include ha hb
theorem eq0:aq3 (dqx a b)/\∀ x,x∈dqx a b↔x∈a\/x∈b:=by
 rw [dqx,aqs.2 ha,aqs.2 hb]
 simp only [Bool.and_self,if_true]
 obtain ⟨h1,h2⟩:=gqy true true true a b ha.up hb.up
 have h3:∀ x,x∈bq0 true true true a b↔x∈a\/x∈b:=by
  intro x;rw [h2]
  by_cases p:x∈a<;>by_cases q:x∈b<;>simp [p,q]
 exact ⟨⟨h1,fun x hx=>by rcases (h3 x).1 hx with h | h;(· exact ha.ok x h);(· exact hb.ok x h)⟩,h3⟩
theorem lqs:aq3 (meetL a b)/\∀ x,x∈meetL a b↔x∈a/\x∈b:=by
 rw [meetL,aqs.2 ha,aqs.2 hb]
 simp only [Bool.and_self,if_true]
 obtain ⟨h1,h2⟩:=gqy false false true a b ha.up hb.up
 have h3:∀ x,x∈bq0 false false true a b↔x∈a/\x∈b:=by
  intro x;rw [h2];simp
 exact ⟨⟨h1,fun x hx=>ha.ok x ((h3 x).1 hx).1⟩,h3⟩
theorem eq6:aq3 (dq9 a b)/\∀ x,x∈dq9 a b↔x∈a/\x∉b:=by
 rw [dq9,aqs.2 ha,aqs.2 hb]
 simp only [Bool.and_self,if_true]
 obtain ⟨h1,h2⟩:=gqy true false false a b ha.up hb.up
 have h3:∀ x,x∈bq0 true false false a b↔x∈a/\x∉b:=by
  intro x;rw [h2];simp
 exact ⟨⟨h1,fun x hx=>ha.ok x ((h3 x).1 hx).1⟩,h3⟩
theorem jq2:dqx a b=bql a b:=(eq0 ha hb).1.ext (bq2 ha hb).1 fun x=>by rw [(eq0 ha hb).2,(bq2 ha hb).2]
theorem meetL_eq:meetL a b=a.filter (fun x=>decide (x∈b)):=(lqs ha hb).1.ext (ha.filter _) fun x=>by rw [(lqs ha hb).2,List.mem_filter];simp
theorem equ:dq9 a b=a.filter (fun x=> !decide (x∈b)):=(eq6 ha hb).1.ext (ha.filter _) fun x=>by rw [(eq6 ha hb).2,List.mem_filter];simp
end
end Go.Am
namespace Go.Am
open Go
set_option linter.unusedVariables false
set_option linter.unusedSimpArgs false
structure Pts (n:Nat) (l:List Int):Prop where
 set:aq3 l
 lt:∀ x∈l,0<=x/\x<n
structure Gr (adj:List (List Int)):Prop where
 len:adj.length<=4096
 pts:∀ l∈adj,Pts adj.length l
def out (adj:List (List Int)) (x:Int):List Int:=adj.getD x.toNat []
theorem out_eq {adj:List (List Int)} {x:Int} (h:x.toNat<adj.length):out adj x=adj[x.toNat]:=by simp [out,h]
theorem dqz {adj:List (List Int)} (h:Gr adj) (x:Int):Pts adj.length (out adj x):=by
 unfold out
 by_cases hx:x.toNat<adj.length
 ·rw [List.getD_eq_getElem?_getD,List.getElem?_eq_getElem hx]
  exact h.pts _ (List.getElem_mem _)
 ·rw [List.getD_eq_getElem?_getD,List.getElem?_eq_none (by omega)]
  exact ⟨.nil,by simp⟩
theorem Pts.nil {n:Nat}:Pts n []:=⟨.nil,by simp⟩
theorem Pts.length {n:Nat} {l:List Int} (h:Pts n l):l.length<=n:=jq0 h.set.up h.lt
theorem Pts.union {n:Nat} {a b:List Int} (ha:Pts n a) (hb:Pts n b):Pts n (bql a b):=
 ⟨(bq2 ha.set hb.set).1,fun x hx=>by rcases ((bq2 ha.set hb.set).2 x).1 hx with h | h;(· exact ha.lt x h);(· exact hb.lt x h)⟩
def nearL (adj:List (List Int)) (l:List Int):List Int:=l.foldl (fun o x=>bql o (out adj x)) l
theorem near_fold {adj:List (List Int)} (hg:Gr adj) (l:List Int):∀ o,Pts adj.length o->Pts adj.length (l.foldl (fun o x=>bql o (out adj x)) o)/\
  ∀ x,x∈l.foldl (fun o x=>bql o (out adj x)) o↔x∈o\/∃ y∈l,x∈out adj y:=by
 induction l with
 | nil=>intro o h;exact ⟨h,by simp⟩
 | cons y l ih=>
  intro o h
  have hy:=dqz hg y
  obtain ⟨h1,h2⟩:=ih _ (h.union hy)
  refine ⟨h1,fun x=> ?_⟩
  rw [List.foldl_cons,h2,(bq2 h.set hy.set).2]
  simp only [List.mem_cons,exists_eq_or_imp]
  exact or_assoc
theorem near_pts {adj:List (List Int)} (hg:Gr adj) {l:List Int} (h:Pts adj.length l):Pts adj.length (nearL adj l):=(near_fold hg l l h).1
theorem mem_near {adj:List (List Int)} (hg:Gr adj) {l:List Int} (h:Pts adj.length l) {x:Int}:x∈nearL adj l↔x∈l\/∃ y∈l,x∈out adj y:=(near_fold hg l l h).2 x
def levL (adj:List (List Int)) (l:List Int):Nat->List Int
 | 0=>l
 | k+1=>nearL adj (levL adj l k)
section
variable {adj:List (List Int)} (hg:Gr adj) {l:List Int} (hl:Pts adj.length l)
include hg hl
theorem eqm (k:Nat):Pts adj.length (levL adj l k):=by
 induction k with
 | zero=>exact hl
 | succ k ih=>exact near_pts hg ih
theorem gqz {k:Nat} {x:Int}:x∈levL adj l (k+1)↔x∈levL adj l k\/∃ y∈levL adj l k,x∈out adj y:=mem_near hg (eqm hg hl k)
theorem hq6 {j k:Nat} (h:j<=k) {x:Int} (hx:x∈levL adj l j):x∈levL adj l k:=by
 induction k with
 | zero=>
  have:j=0:=by omega
  subst this;exact hx
 | succ k ih=>
  by_cases e:j=k+1
  ·subst e;exact hx
  ·exact (gqz hg hl).2 (.inl (ih (by omega)))
omit hg hl in
theorem lev_stop {k:Nat} (h:levL adj l (k+1)=levL adj l k) (j:Nat):levL adj l (k+j)=levL adj l k:=by
 induction j with
 | zero=>rfl
 | succ j ih=>
  show nearL adj (levL adj l (k+j))=_
  rw [ih];exact h
theorem lev_grow (k:Nat):(∃ j,j<k/\levL adj l (j+1)=levL adj l j)\/l.length+k<=(levL adj l k).length:=by
 induction k with
 | zero=>exact .inr (by simp [levL])
 | succ k ih=>
  rcases ih with ⟨j,hj,h⟩ | h
  ·exact .inl ⟨j,by omega,h⟩
  ·by_cases e:levL adj l (k+1)=levL adj l k
   ·exact .inl ⟨k,by omega,e⟩
   ·refine .inr ?_
    have hp:=eqm hg hl k
    have hp':=eqm hg hl (k+1)
    have:∃ x,x∈levL adj l (k+1)/\x∉levL adj l k:=by
     refine Classical.byContradiction fun hno=>e (hp'.set.ext hp.set fun x=>⟨fun hx=>Classical.byContradiction fun hx'=>hno ⟨x,hx,hx'⟩,fun hx=>hq6 hg hl (by omega) hx⟩)
    obtain ⟨x,hx,hx'⟩:=this
    have h1:=gq5 (p:=fun x=>decide (x∈levL adj l k)) (q:=fun _=>true) (l:=levL adj l (k+1)) (x:=x) (fun _ _=>rfl) hx (by simpa using hx') rfl
    have h2:(levL adj l (k+1)).filter (fun x=>decide (x∈levL adj l k))=levL adj l k:=
     (hp'.set.filter _).ext hp.set fun y=>by
      rw [List.mem_filter]
      exact ⟨fun h=>by simpa using h.2,fun h=>⟨hq6 hg hl (by omega) h,by simpa using h⟩⟩
    rw [h2,List.filter_eq_self.2 (fun _ _=>rfl)] at h1
    omega
theorem lev_all {k:Nat} (hk:adj.length<=k):levL adj l k=levL adj l adj.length:=by
 by_cases hnil:l=[]
 ·subst hnil
  have:∀ k,levL adj [] k=[]:=by
   intro k
   induction k with
   | zero=>rfl
   | succ k ih=>show nearL adj (levL adj [] k)=[];rw [ih];rfl
  rw [this,this]
 ·have hpos:=List.length_pos_iff.2 hnil
  have hlen:=(eqm hg hl adj.length).length
  rcases lev_grow hg hl adj.length with ⟨j,hj,h⟩ | h
  ·have h1:=lev_stop h (k-j)
   have h2:=lev_stop h (adj.length-j)
   rw [show j+(k-j)=k by omega] at h1
   rw [show j+(adj.length-j)=adj.length by omega] at h2
   rw [h1,h2]
  ·omega
theorem lev_le {k:Nat} {x:Int} (h:x∈levL adj l k):x∈levL adj l adj.length:=by
 rcases Nat.le_total k adj.length with hk | hk
 ·exact hq6 hg hl hk h
 ·rwa [lev_all hg hl hk] at h
end
def bqc (adj:List (List Int)) (l:List Int) (v:Int):Int:=
 match (List.range (adj.length+1)).find? fun k=>decide (v∈levL adj l k) with
 | some k=>k
 | none=> -1
theorem find_range {p:Nat->Bool} {n:Nat}:(∃ k,k<n/\(List.range n).find? p=some k/\p k=true/\∀ j,j<k->p j=false)\/((List.range n).find? p=none/\∀ j,j<n->p j=false):=by
 induction n with
 | zero=>exact .inr ⟨rfl,by omega⟩
 | succ n ih=>
  rw [List.range_succ,List.find?_append]
  rcases ih with ⟨k,h1,h2,h3,h4⟩ | ⟨h1,h2⟩
  ·exact .inl ⟨k,by omega,by rw [h2];rfl,h3,h4⟩
  ·rw [h1]
   cases hp:p n with
   | true=>exact .inl ⟨n,by omega,by simp [hp],hp,h2⟩
   | false=>exact .inr ⟨by simp [hp],fun j hj=>by by_cases e:j=n;(· subst e;exact hp);(· exact h2 j (by omega))⟩
section
variable {adj:List (List Int)} (hg:Gr adj) {l:List Int} (hl:Pts adj.length l) {v:Int}
include hg hl
theorem cq9:(∃ d:Nat,d<=adj.length/\bqc adj l v=d/\v∈levL adj l d/\∀ j,j<d->v∉levL adj l j)\/(bqc adj l v= -1/\∀ j,v∉levL adj l j):=by
 unfold bqc
 rcases find_range (p:=fun k=>decide (v∈levL adj l k)) (n:=adj.length+1) with ⟨k,h1,h2,h3,h4⟩ | ⟨h1,h2⟩
 ·rw [h2]
  exact .inl ⟨k,by omega,rfl,by simpa using h3,fun j hj=>by simpa using h4 j hj⟩
 ·rw [h1]
  refine .inr ⟨rfl,fun j hj=> ?_⟩
  have:=h2 adj.length (by omega)
  simp only [decide_eq_false_iff_not] at this
  exact this (lev_le hg hl hj)
theorem dist_le {k:Nat} (h:v∈levL adj l k):0<=bqc adj l v/\bqc adj l v<=k:=by
 rcases cq9 hg hl (v:=v) with ⟨d,h1,h2,h3,h4⟩ | ⟨h1,h2⟩
 ·rw [h2]
  refine ⟨by omega,?_⟩
  rcases Nat.lt_or_ge k d with hk | hk
  ·exact absurd h (h4 k hk)
  ·omega
 ·exact absurd h (h2 k)
theorem nqr:bqc adj l v= -1↔v∉levL adj l adj.length:=by
 rcases cq9 hg hl (v:=v) with ⟨d,h1,h2,h3,h4⟩ | ⟨h1,h2⟩
 ·rw [h2]
  constructor
  ·intro h;omega
  ·intro h;exact absurd (hq6 hg hl h1 h3) h
 ·rw [h1];simp [h2]
theorem dist_of {f:Int->Int} (ha:∀ x:Int,0<=x->x<adj.length->f x≠ -1->0<=f x/\x∈levL adj l (f x).toNat) (hb:∀ x∈l,f x=0)
  (hc:∀ x:Int,0<=x->x<adj.length->f x≠ -1->∀ y∈out adj x,f y≠ -1/\f y<=f x+1) (h0:0<=v) (h1:v<adj.length):f v=bqc adj l v:=by
 have key:∀ k x,x∈levL adj l k->f x≠ -1/\f x<=k:=by
  intro k
  induction k with
  | zero=>intro x hx;have:=hb x hx;omega
  | succ k ih=>
   intro x hx
   rcases (gqz hg hl).1 hx with hx | ⟨y,hy,hx⟩
   ·have:=ih x hx;omega
   ·have hy':=ih y hy
    have hp:=(eqm hg hl k).lt y hy
    have:=hc y hp.1 hp.2 hy'.1 x hx
    omega
 rcases cq9 hg hl (v:=v) with ⟨d,h2,h3,h4,h5⟩ | ⟨h2,h3⟩
 ·have hk:=key d v h4
  obtain ⟨p,q⟩:=ha v h0 h1 hk.1
  have:=dist_le hg hl q
  rw [h3] at this ⊢
  omega
 ·rw [h2]
  refine Classical.byContradiction fun h=> ?_
  exact h3 _ (ha v h0 h1 h).2
end
structure BInv (adj:List (List Int)) (l:List Int) (f:Int->Int) (q:List Int):Prop where
 vis:∀ x:Int,0<=x->x<adj.length->f x≠ -1->0<=f x/\x∈levL adj l (f x).toNat
 src:∀ x∈l,f x=0
 qv:∀ x∈q,0<=x/\x<adj.length/\f x≠ -1
 up:q.Pairwise fun x y=>f x<=f y
 near:∀ x∈q,∀ y∈q,f y<=f x+1
 done:∀ x:Int,0<=x->x<adj.length->f x≠ -1->x∉q->(∀ y∈q,f x<=f y)/\∀ w∈out adj x,f w≠ -1/\f w<=f x+1
structure BMid (adj:List (List Int)) (l:List Int) (v:Int) (ws:List Int) (f:Int->Int) (q:List Int):Prop where
 vis:∀ x:Int,0<=x->x<adj.length->f x≠ -1->0<=f x/\x∈levL adj l (f x).toNat
 src:∀ x∈l,f x=0
 qv:∀ x∈q,0<=x/\x<adj.length/\f x≠ -1
 up:q.Pairwise fun x y=>f x<=f y
 vv:0<=v/\v<adj.length/\f v≠ -1
 near:∀ y∈q,f v<=f y/\f y<=f v+1
 done:∀ x:Int,0<=x->x<adj.length->f x≠ -1->x∉q->x≠v->f x<=f v/\∀ w∈out adj x,f w≠ -1/\f w<=f x+1
 ws:∀ w∈ws,f w≠ -1/\f w<=f v+1
theorem BInv.pop {adj:List (List Int)} {l:List Int} {f:Int->Int} {v:Int} {q:List Int} (h:BInv adj l f (v::q)):BMid adj l v [] f q:=by
 refine ⟨h.vis,h.src,fun x hx=>h.qv x (by simp [hx]),(List.pairwise_cons.1 h.up).2,h.qv v (by simp),fun y hy=>⟨(List.pairwise_cons.1 h.up).1 y hy,h.near v (by simp) y (by simp [hy])⟩,fun x h0 h1 h2 h3 h4=> ?_,by simp⟩
 have:=h.done x h0 h1 h2 (by simp [h3,h4])
 exact ⟨this.1 v (by simp),this.2⟩
theorem BMid.end {adj:List (List Int)} {l:List Int} {f:Int->Int} {v:Int} {q:List Int} (h:BMid adj l v (out adj v) f q):BInv adj l f q:=by
 refine ⟨h.vis,h.src,h.qv,h.up,fun x hx y hy=>by have:=h.near x hx;have:=h.near y hy;omega,fun x h0 h1 h2 h3=> ?_⟩
 by_cases e:x=v
 ·subst e
  exact ⟨fun y hy=>(h.near y hy).1,h.ws⟩
 ·have:=h.done x h0 h1 h2 h3 e
  exact ⟨fun y hy=>by have:=h.near y hy;omega,this.2⟩
theorem BMid.old {adj:List (List Int)} {l:List Int} {f:Int->Int} {v w:Int} {ws q:List Int} (h:BMid adj l v ws f q) (hw:0<=w/\w<adj.length) (hf:f w≠ -1):BMid adj l v (ws++[w]) f q:=by
 refine ⟨h.vis,h.src,h.qv,h.up,h.vv,h.near,h.done,fun x hx=> ?_⟩
 rcases List.mem_append.1 hx with hx | hx
 ·exact h.ws x hx
 ·simp at hx;subst hx
  refine ⟨hf,?_⟩
  by_cases hq:x∈q
  ·exact (h.near x hq).2
  ·by_cases e:x=v
   ·subst e;omega
   ·have:=(h.done x hw.1 hw.2 hf hq e).1;omega
theorem BMid.new {adj:List (List Int)} (hg:Gr adj) {l:List Int} (hl:Pts adj.length l) {f:Int->Int} {v w:Int} {ws q:List Int} (h:BMid adj l v ws f q) (hw:w∈out adj v) (hf:f w= -1):
  BMid adj l v (ws++[w]) (fun x=>if x=w then f v+1 else f x) (q++[w]):=by
 have hwp:=(dqz hg v).lt w hw
 have hwq:w∉q:=fun hq=>(h.qv w hq).2.2 hf
 have hwv:v≠w:=fun e=>h.vv.2.2 (e▸hf)
 have hne:∀ x,f x≠ -1->(if x=w then f v+1 else f x)=f x:=fun x hx=>by rw [if_neg];rintro rfl;exact hx hf
 have hfv:=hne v h.vv.2.2
 have hv0:=(h.vis v h.vv.1 h.vv.2.1 h.vv.2.2)
 refine ⟨fun x h0 h1 h2=> ?_,fun x hx=> ?_,fun x hx=> ?_,?_,⟨h.vv.1,h.vv.2.1,by rw [hfv];exact h.vv.2.2⟩,fun y hy=> ?_,fun x h0 h1 h2 h3 h4=> ?_,fun x hx=> ?_⟩
 ·(try simp only at h2 ⊢)
  by_cases e:x=w
  ·subst e
   rw [if_pos rfl]
   refine ⟨by omega,?_⟩
   rw [show (f v+1).toNat=(f v).toNat+1 by omega]
   exact (gqz hg hl).2 (.inr ⟨v,hv0.2,hw⟩)
  ·rw [if_neg e] at h2 ⊢;exact h.vis x h0 h1 h2
 ·have:=h.src x hx
  rw [hne x (by omega)];exact this
 ·rcases List.mem_append.1 hx with hx | hx
  ·have:=h.qv x hx
   rw [hne x this.2.2];exact this
  ·simp at hx;subst hx
   rw [if_pos rfl];exact ⟨hwp.1,hwp.2,by omega⟩
 ·rw [List.pairwise_append]
  refine ⟨h.up.imp_of_mem ?_,by simp,?_⟩
  ·intro x y hx hy hxy
   rw [hne x (h.qv x hx).2.2,hne y (h.qv y hy).2.2];exact hxy
  ·intro x hx y hy
   simp at hy;subst hy
   rw [hne x (h.qv x hx).2.2,if_pos rfl]
   exact (h.near x hx).2
 ·rw [hfv]
  rcases List.mem_append.1 hy with hy | hy
  ·rw [hne y (h.qv y hy).2.2];exact h.near y hy
  ·simp at hy;subst hy
   rw [if_pos rfl];omega
 ·(try simp only at h2 ⊢)
  have hxw:x≠w:=fun e=>h3 (by simp [e])
  rw [if_neg hxw] at h2 ⊢
  have:=h.done x h0 h1 h2 (fun hq=>h3 (by simp [hq])) h4
  rw [hfv]
  exact ⟨this.1,fun z hz=>by have:=this.2 z hz;rw [hne z this.1];exact this⟩
 ·rw [hfv]
  rcases List.mem_append.1 hx with hx | hx
  ·have:=h.ws x hx;rw [hne x this.1];exact this
  ·simp at hx;subst hx
   rw [if_pos rfl]
   exact ⟨by omega,by omega⟩
theorem BInv.start {adj:List (List Int)} {l:List Int} (hl:Pts adj.length l):BInv adj l (fun x=>if x∈l then 0 else -1) l:=by
 refine ⟨fun x h0 h1 h2=> ?_,fun x hx=>by simp [hx],fun x hx=>⟨(hl.lt x hx).1,(hl.lt x hx).2,by simp [hx]⟩,?_,fun x hx y hy=>by simp [hx,hy],fun x h0 h1 h2 h3=>by simp [h3] at h2⟩
 ·by_cases hx:x∈l
  ·simp [hx,levL]
  ·simp [hx] at h2
 ·exact List.pairwise_iff_forall_sublist.2 fun {a b} h=>by
   have ha:=h.subset (show a∈[a,b] by simp)
   have hb:=h.subset (show b∈[a,b] by simp)
   simp [ha,hb]
theorem BInv.fin {adj:List (List Int)} (hg:Gr adj) {l:List Int} (hl:Pts adj.length l) {f:Int->Int} (h:BInv adj l f []) {x:Int} (h0:0<=x) (h1:x<adj.length):f x=bqc adj l x:=
 dist_of hg hl h.vis h.src (fun x h0 h1 h2=>(h.done x h0 h1 h2 (by simp)).2) h0 h1
def fqk (n:Nat) (f:Int->Int):Nat:=((upto n).filter fun x=>decide (f x= -1)).length
theorem unfound_new {n:Nat} {f:Int->Int} {w y:Int} (hw:0<=w/\w<n) (hf:f w= -1) (hy:y≠ -1):fqk n (fun x=>if x=w then y else f x)+1=fqk n f:=by
 have:∀ l:List Int,l.Nodup->w∈l->(l.filter fun x=>decide ((if x=w then y else f x)= -1)).length+1=(l.filter fun x=>decide (f x= -1)).length:=by
  intro l
  induction l with
  | nil=>intro _ h;simp at h
  | cons z l ih=>
   intro hd hm
   rw [List.nodup_cons] at hd
   rw [List.filter_cons,List.filter_cons]
   by_cases e:z=w
   ·subst e
    rw [if_pos rfl,hf]
    have hc:l.filter (fun x=>decide ((if x=z then y else f x)= -1))=l.filter fun x=>decide (f x= -1):=by
     apply List.filter_congr
     intro x hx
     have:x≠z:=fun e=>hd.1 (e▸hx)
     rw [if_neg this]
    rw [hc]
    simp [hy]
   ·rw [if_neg e]
    have:=ih hd.2 ((List.mem_cons.1 hm).resolve_left fun h=>e h.symm)
    by_cases hz:f z= -1
    ·simp only [hz,decide_true,if_true,List.length_cons];omega
    ·simp only [hz,decide_false,Bool.false_eq_true,if_false];omega
 exact this _ ((dqh n).imp fun h e=>by omega) (aqq.2 hw)
end Go.Am
namespace Go.Am
open Go Go.Proofs
set_option linter.unusedVariables false
set_option linter.unusedSimpArgs false
variable {w0:World}
attribute [local irreducible] AWP aqo
attribute [local congr] aqp
def labC (m:Nat) (l:Nat->Nat):List AV:=(List.range m).map fun w=>I (l w:Int)
theorem labC_length (m:Nat) (l:Nat->Nat):(labC m l).length=m:=by simp [labC]
theorem labC_at {m:Nat} {l:Nat->Nat} {w:Nat} (h:w<(labC m l).length):(labC m l)[w]=I (l w:Int):=by simp [labC]
theorem labC_set {m:Nat} {l:Nat->Nat} {u x:Nat}:(labC m l).set u (I (x:Int))=labC m (fun w=>if w=u then x else l w):=by
 refine List.ext_getElem? fun i=> ?_
 rw [List.getElem?_set]
 simp only [labC,List.length_map,List.length_range,List.getElem?_map]
 by_cases h:u=i
 ·subst h
  by_cases hu:u<m
  ·simp [hu]
  ·simp [hu]
 ·rw [if_neg h]
  by_cases hi:i<m
  ·have h':¬i=u:=fun e=>h e.symm
   simp [hi,h']
  ·simp [hi]
theorem labC_rel {m:Nat} {l:Nat->Nat} {e:Int×Int}:((labC m l).set e.1.toNat (I (min (l e.1.toNat) (l e.2.toNat):Nat))).set e.2.toNat (I (min (l e.1.toNat) (l e.2.toNat):Nat))=labC m (relE l e):=by
 rw [labC_set,labC_set]
 congr 1
 funext w
 simp only [relE]
 by_cases h1:w=e.2.toNat<;>by_cases h2:w=e.1.toNat<;>simp [h1,h2]
theorem mqa {n:Int} {es:List (Int×Int)} (he:aqz es):Ret Tryz.prog w0 216 [I n,bqy es] (.tup [ints (fq4 n es),I (okE n es)]):=by
 intro H
 refine aqf Tryz.func216 rfl Tryz.ntmps216 (ts:=[4,5]) rfl (by simp) (by kernel_rfl) ?_
 cases hv:bqf n es with
 | false=>
  repeat'(with_reducible first|(refine sp (hK _ _ ?_);clear hK K)|refine vr [] fun K hK=>?_|((first|refine aqa fun K' hK'=>?_|refine aqb fun K' B hK' hB=>?_);simp[bqy,hv];repeat'(first|((first|refine hK' ?_|refine hB ?_);clear hK' hB K' B)|(apply hK';clear hK' K')|refine Ret.use (graph_ret he) ?_|fail))|apply aqc|refine sp ?_|fail)
  simp [fq4,okE,hv]
 | true=>
  have hb:=belowE_of (n:=n.toNat) (es:=es)
  obtain ⟨m,rfl,hm1,hm2,hm3⟩:=hqa hv
  rw [Int.toNat_natCast] at hb
  have hb:=hb hv
  have hpos:∀ e∈es,0<=e.1/\0<=e.2:=by
   simp only [bqf,Bool.and_eq_true,decide_eq_true_eq,List.all_eq_true,cql] at hv
   intro e he
   have:=hv.2 e he
   omega
  repeat'(with_reducible first|(refine sp (hK _ _ ?_);clear hK K)|refine vr [] fun K hK=>?_|((first|refine aqa fun K' hK'=>?_|refine aqb fun K' B hK' hB=>?_);simp[bqy,hv];repeat'(first|((first|refine hK' ?_|refine hB ?_);clear hK' hB K' B)|(apply hK';clear hK' K')|refine Ret.use (graph_ret he) ?_|refine And.intro ?_ ?_|intro hg|(clear hK' K';omega)))|refine sp ?_|fail)
  rename_i r
  have hr:H r=none:=hg
  clear hg
  refine aqi (fun env h=>∃ (k:Nat),k<=m/\env 7=I k/\env 0=I m/\env 1=bqy es/\env 6= .ref r 0 m m/\h=upd H r (some (.arr 1 3 ((List.range k++List.replicate (m-k) 0).map fun x:Nat=>I (x:Int)) m))) (fun env _=>m-natA (env 7)) ?_ ?_
  ·exact ⟨0,by omega,by simp,by simp,by simp [bqy],by simp,by simp⟩
  rintro env h ⟨k,hk,h7,h0,h1,h6,rfl⟩
  have hnat:natA (env 7)=k:=by simp [h7]
  rw [hnat];clear hnat
  by_cases hlt:k<m
  ·obtain ⟨q,hm⟩:∃ q,m-k=q+1:=⟨m-k-1,by omega⟩
   have hm':m-(k+1)=q:=by omega
   have hs:=hqo (List.range k) q 0 k
   rw [List.length_range,<-List.range_succ] at hs
   rw [hm]
   have hlen:(List.range k++List.replicate (q+1) 0).length=m:=by simp;omega
   generalize List.range k++List.replicate (q+1) 0=up at *
   repeat'(with_reducible first|(refine sp (hK _ _ ?_);clear hK K)|refine vr [] fun K hK=>?_|((first|refine aqa fun K' hK'=>?_|refine aqb fun K' B hK' hB=>?_);simp[h7,h0,h1,h6,hlt,hlen];repeat'(first|((first|refine hK' ?_|refine hB ?_);clear hK' hB K' B)|(apply hK';clear hK' K')|refine And.intro ?_ ?_|(clear hK' K';omega)))|refine sp ?_|fail)
   exact ⟨⟨k+1,by omega,by simp,by simp [h0],by simp [h1],by simp [h6],by rw [hm',<-hs];simp [List.map_set]⟩,by simp;omega⟩
  ·have:k=m:=by omega
   subst this
   have hc0:((List.range k++List.replicate (k-k) 0).map fun x:Nat=>I (x:Int))=labC k id:=by simp [labC]
   rw [hc0]
   repeat'(with_reducible first|(refine sp (hK _ _ ?_);clear hK K)|refine vr [] fun K hK=>?_|((first|refine aqa fun K' hK'=>?_|refine aqb fun K' B hK' hB=>?_);simp[h7,h0,h1,h6];repeat'(first|((first|refine hK' ?_|refine hB ?_);clear hK' hB K' B)|(apply hK';clear hK' K')|fail))|refine sp ?_|fail)
   refine aqi (fun env h=>∃ (j:Nat),j<=k/\env 8=I j/\env 0=I k/\env 1=bqy es/\env 6= .ref r 0 k k/\h=upd H r (some (.arr 1 3 (labC k (rnds es j)) k))) (fun env _=>k-natA (env 8)) ?_ ?_
   ·exact ⟨0,by omega,by simp,by simp [h0],by simp [h1,bqy],by simp [h6],by simp [rnds]⟩
   clear h7 h0 h1 h6
   rintro env h ⟨j,hj,h8,h0,h1,h6,rfl⟩
   have hnat:natA (env 8)=j:=by simp [h8]
   rw [hnat];clear hnat
   by_cases hlt:j<k
   ·repeat'(with_reducible first|(refine sp (hK _ _ ?_);clear hK K)|refine vr [] fun K hK=>?_|((first|refine aqa fun K' hK'=>?_|refine aqb fun K' B hK' hB=>?_);simp[h8,h0,h1,h6,hlt];repeat'(first|((first|refine hK' ?_|refine hB ?_);clear hK' hB K' B)|(apply hK';clear hK' K')|fail))|refine sp ?_|fail)
    refine aqi (fun env h=>∃ (i:Nat),i<=es.length/\env 9=I i/\env 8=I j/\env 0=I k/\env 1=bqy es/\env 6= .ref r 0 k k/\h=upd H r (some (.arr 1 3 (labC k ((es.take i).foldl relE (rnds es j))) k))) (fun env _=>es.length-natA (env 9)) ?_ ?_
    ·exact ⟨0,by omega,by simp,by simp [h8],by simp [h0],by simp [h1,bqy],by simp [h6],by simp⟩
    clear h8 h0 h1 h6
    rintro env h ⟨i,hi,h9,h8,h0,h1,h6,rfl⟩
    have hnat:natA (env 9)=i:=by simp [h9]
    rw [hnat];clear hnat
    by_cases hil:i<es.length
    ·have hp:=kqd hil
     obtain ⟨hu,hw⟩:=hb es[i] (by simp)
     obtain ⟨pu,pw⟩:=hpos es[i] (by simp)
     have hstep:(es.take (i+1)).foldl relE (rnds es j)=relE ((es.take i).foldl relE (rnds es j)) es[i]:=by
      rw [List.take_succ_eq_append_getElem hil,List.foldl_append];rfl
     generalize hl:(es.take i).foldl relE (rnds es j)=l at *
     have hrel:=labC_rel (m:=k) (l:=l) (e:=es[i])
     have hll:(labC k l).length=k:=labC_length k l
     have hgu:=labC_at (m:=k) (l:=l) (w:=es[i].1.toNat)
     have hgw:=labC_at (m:=k) (l:=l) (w:=es[i].2.toNat)
     have hmin:min (l es[i].1.toNat:Int) (l es[i].2.toNat:Int)=(min (l es[i].1.toNat) (l es[i].2.toNat):Nat):=by omega
     generalize labC k l=cells at *
     repeat'(with_reducible first|(refine sp (hK _ _ ?_);clear hK K)|refine vr [] fun K hK=>?_|(refine vd [] [] mixed fun K hK=>?_)|((first|refine aqa fun K' hK'=>?_|refine aqb fun K' B hK' hB=>?_|refine aqn fun K' hK'=>?_);simp[h9,h8,h0,h1,h6,hil,hp.1,hp.2.1,hqw,hgu,hgw,hll,hmin,hrel,pu,pw,hu,hw];repeat'(first|((first|refine hK' ?_|refine hB ?_);clear hK' hB K' B)|(apply hK';clear hK' K')|refine And.intro ?_ ?_|(clear hK' K';omega)))|refine sp ?_|fail)
     exact ⟨⟨i+1,by omega,by simp,by simp [h8],by simp [h0],by simp [h1],by simp [h6],by rw [hstep]⟩,by simp;omega⟩
    ·have:i=es.length:=by omega
     subst this
     rw [List.take_length]
     repeat'(with_reducible first|(refine sp (hK _ _ ?_);clear hK K)|refine vr [] fun K hK=>?_|((first|refine aqa fun K' hK'=>?_|refine aqb fun K' B hK' hB=>?_);simp[h9,h8,h0,h1,h6];repeat'(first|((first|refine hK' ?_|refine hB ?_);clear hK' hB K' B)|(apply hK';clear hK' K')|refine And.intro ?_ ?_|(clear hK' K';omega)))|refine sp ?_|fail)
     exact ⟨⟨j+1,by omega,by simp,by simp [h0],by simp [h1],by simp [h6],by simp [rnds,rnd]⟩,by simp;omega⟩
   ·have:j=k:=by omega
    subst this
    refine dqk 6 h6 hr fun env' he' he2=> ?_
    have hc:labC j (rnds es j)=(fq4 (j:Int) es).map I:=by
     simp only [fq4,hv,if_true,Int.toNat_natCast,labC,List.map_map]
     apply List.map_congr_left
     intro w hw
     simp only [Function.comp]
     rw [rnds_comp es hb (by simpa using hw)]
    have hcl:(fq4 (j:Int) es).length=j:=by simp [fq4,hv]
    rw [hc] at he'
    have he3:env' 6=ints (fq4 (j:Int) es):=by
     rw [he',ints]
     have:=bqw I (fq4 (j:Int) es)
     rwa [hcl] at this ⊢
    have g8:env' 8=I (j:Int):=by rw [he2 _ (by decide),h8]
    have g0:env' 0=I (j:Int):=by rw [he2 _ (by decide),h0]
    repeat'(with_reducible first|(refine sp (hK _ _ ?_);clear hK K)|refine vr [] fun K hK=>?_|((first|refine aqa fun K' hK'=>?_|refine aqb fun K' B hK' hB=>?_);simp[he3,g8,g0];repeat'(first|((first|refine hK' ?_|refine hB ?_);clear hK' hB K' B)|(apply hK';clear hK' K')|fail))|apply aqc|refine sp ?_|fail)
    simp [okE,hv]
theorem lqm {n:Int} {es:List (Int×Int)} (he:aqz es):Ret Tryz.prog w0 202 [I n,bqy es] (.tup [rows (hqu n es),I (okE n es)]):=by
 intro H
 refine aqf Tryz.func202 rfl Tryz.ntmps202 (ts:=[4,5]) rfl (by simp) (by kernel_rfl) ?_
 cases hv:bqf n es with
 | false=>
  repeat'(with_reducible first|(refine aqd (hK _ _ ?_);clear hK K)|refine vr [] fun K hK=>?_|((first|refine aqa fun K' hK'=>?_|refine aqb fun K' B hK' hB=>?_);simp[bqy,fq4,okE,hv];repeat'(first|((first|refine hK' ?_|refine hB ?_);clear hK' hB K' B)|(apply hK';clear hK' K')|refine Ret.use (mqa he) ?_|fail))|apply aqc|refine sp ?_|fail)
  simp [hqu,okE,hv]
 | true=>
  obtain ⟨m,rfl,hm1,hm2,hm3⟩:=hqa hv
  repeat'(with_reducible first|(refine aqd (hK _ _ ?_);clear hK K)|refine vr [21] fun K hK=>?_|((first|refine aqa fun K' hK'=>?_|refine aqb fun K' B hK' hB=>?_);simp[bqy,fq4,okE,hv];repeat'(first|((first|refine hK' ?_|refine hB ?_);clear hK' hB K' B)|(apply hK';clear hK' K')|refine Ret.use (mqa he) ?_|intro hg|fail))|refine sp ?_|fail)
  rename_i O
  have hO:H O=none:=hg
  clear hg
  refine aqi (fun env h=>∃ (k:Nat),k<=m/\env 9=I k/\env 0=I m/\env 6= .sl ((List.range m).map fun w=>I ((aqu es).1 w:Int)) m/\
    env 8= .ref O 0 (bq5 (aqu es).1 k).length (bq5 (aqu es).1 k).length/\h=upd H O (some (.arr 1 26 ((bq5 (aqu es).1 k).map fun r=>ints (fqp (aqu es).1 m r)) (bq5 (aqu es).1 k).length))) (fun env _=>m-natA (env 9)) ?_ ?_
  ·exact ⟨0,by omega,by simp,by simp,by simp,by simp [bq5],by simp [bq5]⟩
  rintro env h ⟨k,hk,h9,h0,h6,h8,rfl⟩
  have hnat:natA (env 9)=k:=by simp [h9]
  rw [hnat];clear hnat
  have hrl:=rootsK_le (aqu es).1 k
  have hsucc:=rootsK_succ (aqu es).1 k
  by_cases hlt:k<m
  ·by_cases hroot:(aqu es).1 k=k
   ·rw [if_pos hroot] at hsucc
    generalize hrs:bq5 (aqu es).1 k=rs at *
    repeat'(with_reducible first|(refine aqd (hK _ _ ?_);clear hK K)|refine vr [33] fun K hK=>?_|((first|refine aqa fun K' hK'=>?_|refine aqb fun K' B hK' hB=>?_);simp[h9,h0,h6,h8,hlt,hroot];repeat'(first|((first|refine hK' ?_|refine hB ?_);clear hK' hB K' B)|(apply hK';clear hK' K')|intro hg|fail))|refine sp ?_|fail)
    rename_i q
    have hqO:q≠O:=by rintro rfl;simp at hg
    have hq:H q=none:=by rw [if_neg hqO] at hg;exact hg
    clear hg
    refine aqi (fun env h=>∃ (j:Nat),j<=m/\env 11=I j/\env 9=I k/\env 0=I m/\env 6= .sl ((List.range m).map fun w=>I ((aqu es).1 w:Int)) m/\env 8= .ref O 0 rs.length rs.length/\
      env 10= .ref q 0 (fqp (aqu es).1 j k).length (fqp (aqu es).1 j k).length/\h=upd (upd H O (some (.arr 1 26 (rs.map fun r=>ints (fqp (aqu es).1 m r)) rs.length))) q (some (.arr 1 3 ((fqp (aqu es).1 j k).map I) (fqp (aqu es).1 j k).length))) (fun env _=>m-natA (env 11)) ?_ ?_
    ·exact ⟨0,by omega,by simp,by simp [h9],by simp [h0],by simp [h6],by simp [h8],by simp [fqp],by simp [fqp]⟩
    clear h9 h0 h6 h8
    rintro env h ⟨j,hj,h11,h9,h0,h6,h8,h10,rfl⟩
    have hnat:natA (env 11)=j:=by simp [h11]
    rw [hnat];clear hnat
    have hpl:=partK_le (aqu es).1 j k
    have hps:=partK_succ (aqu es).1 j k
    by_cases hjm:j<m
    ·generalize hp:fqp (aqu es).1 j k=p at *
     by_cases hin:(aqu es).1 j=k
     ·rw [if_pos hin] at hps
      repeat'(with_reducible first|(refine aqd (hK _ _ ?_);clear hK K)|refine vr [] fun K hK=>?_|((first|refine aqa fun K' hK'=>?_|refine aqb fun K' B hK' hB=>?_);simp[h11,h9,h0,h6,h8,h10,hjm,hin];repeat'(first|((first|refine hK' ?_|refine hB ?_);clear hK' hB K' B)|(apply hK';clear hK' K')|refine And.intro ?_ ?_|(clear hK' K';omega)))|refine sp ?_|fail)
      exact ⟨⟨j+1,by omega,by simp,by simp [h9],by simp [h0],by simp [h6],by simp [h8],by rw [hps];simp,by rw [hps];simp⟩,by simp;omega⟩
     ·rw [if_neg hin,List.append_nil] at hps
      have hin':¬(((aqu es).1 j:Int)=(k:Int)):=by omega
      repeat'(with_reducible first|(refine aqd (hK _ _ ?_);clear hK K)|refine vr [] fun K hK=>?_|((first|refine aqa fun K' hK'=>?_|refine aqb fun K' B hK' hB=>?_);simp[h11,h9,h0,h6,h8,h10,hjm,hin'];repeat'(first|((first|refine hK' ?_|refine hB ?_);clear hK' hB K' B)|(apply hK';clear hK' K')|refine And.intro ?_ ?_|(clear hK' K';omega)))|refine sp ?_|fail)
      exact ⟨⟨j+1,by omega,by simp,by simp [h9],by simp [h0],by simp [h6],by simp [h8],by rw [hps];simp [h10],by rw [hps]⟩,by simp;omega⟩
    ·have:j=m:=by omega
     subst this
     refine dqk 10 h10 (by rw [aqm _ _ _ hqO];exact hq) fun env' he' he2=> ?_
     rw [bqw] at he'
     have g11:env' 11=I (j:Int):=by rw [he2 _ (by decide),h11]
     have g0:env' 0=I (j:Int):=by rw [he2 _ (by decide),h0]
     have g9:env' 9=I (k:Int):=by rw [he2 _ (by decide),h9]
     have g6:=h6
     rw [<-he2 _ (by decide)] at g6
     have g8:=h8
     rw [<-he2 _ (by decide)] at g8
     generalize hp:fqp (aqu es).1 j k=p at *
     repeat'(with_reducible first|(refine aqd (hK _ _ ?_);clear hK K)|refine vr [] fun K hK=>?_|((first|refine aqa fun K' hK'=>?_|refine aqb fun K' B hK' hB=>?_);simp[he',g11,g0,g9,g6,g8];repeat'(first|((first|refine hK' ?_|refine hB ?_);clear hK' hB K' B)|(apply hK';clear hK' K')|refine And.intro ?_ ?_|(clear hK' K';omega)))|refine sp ?_|fail)
     exact ⟨⟨k+1,by omega,by simp,by simp [g0],by simp [g6],by rw [hsucc];simp,by rw [hsucc];simp [hp]⟩,by simp;omega⟩
   ·rw [if_neg hroot,List.append_nil] at hsucc
    have hroot':¬(((aqu es).1 k:Int)=(k:Int)):=by omega
    repeat'(with_reducible first|(refine aqd (hK _ _ ?_);clear hK K)|refine vr [33] fun K hK=>?_|((first|refine aqa fun K' hK'=>?_|refine aqb fun K' B hK' hB=>?_);simp[h9,h0,h6,h8,hlt,hroot'];repeat'(first|((first|refine hK' ?_|refine hB ?_);clear hK' hB K' B)|(apply hK';clear hK' K')|refine And.intro ?_ ?_|(clear hK' K';omega)))|refine sp ?_|fail)
    exact ⟨⟨k+1,by omega,by simp,by simp [h0],by simp [h6],by rw [hsucc];simp [h8],by rw [hsucc]⟩,by simp;omega⟩
  ·have:k=m:=by omega
   subst this
   refine dqk 8 h8 hO fun env' he' he2=> ?_
   have hparts:cut 1 ((bq5 (aqu es).1 k).map fun r=>ints (fqp (aqu es).1 k r)) 0 (bq5 (aqu es).1 k).length=rows (hqu k es):=by
    rw [bqw]
    simp [rows,hqu,hv,partsK]
   rw [hparts] at he'
   have g9:env' 9=I (k:Int):=by rw [he2 _ (by decide),h9]
   have g0:env' 0=I (k:Int):=by rw [he2 _ (by decide),h0]
   repeat'(with_reducible first|(refine aqd (hK _ _ ?_);clear hK K)|refine vr [] fun K hK=>?_|((first|refine aqa fun K' hK'=>?_|refine aqb fun K' B hK' hB=>?_);simp[he',g9,g0];repeat'(first|((first|refine hK' ?_|refine hB ?_);clear hK' hB K' B)|(apply hK';clear hK' K')|fail))|apply aqc|refine sp ?_|fail)
   simp [okE,hv]
theorem partsL_len {n:Int} {es:List (Int×Int)} (hv:bqf n es=true):((hqu n es).length:Int)+(aqu es).2=n:=by
 have hb:=belowE_of (n:=n.toNat) (es:=es)
 obtain ⟨m,rfl,hm1,hm2,hm3⟩:=hqa hv
 have:=gq7 es (hb (by simpa using hv))
 rw [hqu,if_pos hv,mqw]
 simp only [Int.toNat_natCast] at this ⊢
 omega
theorem rank3_ret {n:Int} {es:List (Int×Int)} (he:aqz es):Ret Tryz.prog w0 184 [I n,bqy es] (I (if bqf n es then ((aqu es).2:Int) else -1)):=by
 intro H
 refine aqf Tryz.func184 rfl Tryz.ntmps184 (ts:=[4]) rfl (by simp) (by kernel_rfl) ?_
 cases hv:bqf n es with
 | false=>
  repeat'(with_reducible first|(refine aqd (hK _ _ ?_);clear hK K)|refine vr [] fun K hK=>?_|((first|refine aqa fun K' hK'=>?_|refine aqb fun K' B hK' hB=>?_);simp[bqy,hqu,okE,hv];repeat'(first|((first|refine hK' ?_|refine hB ?_);clear hK' hB K' B)|(apply hK';clear hK' K')|refine Ret.use (lqm he) ?_|fail))|apply aqc|refine sp ?_|fail)
  simp
 | true=>
  have:=partsL_len hv
  have hn:1<=n/\n<=64:=by obtain ⟨m,rfl,hm1,hm2,hm3⟩:=hqa hv;omega
  have hw:n-((hqu n es).length:Int)=((aqu es).2:Int):=by omega
  repeat'(with_reducible first|(refine aqd (hK _ _ ?_);clear hK K)|refine vr [] fun K hK=>?_|((first|refine aqa fun K' hK'=>?_|refine aqb fun K' B hK' hB=>?_);simp[bqy,rows,okE,hv,hw];repeat'(first|((first|refine hK' ?_|refine hB ?_);clear hK' hB K' B)|(apply hK';clear hK' K')|refine Ret.use (lqm he) ?_|refine And.intro ?_ ?_|(clear hK' K';omega)))|apply aqc|refine sp ?_|fail)
  all_goals first | omega | simp
theorem forest3_ret {n:Int} {es:List (Int×Int)} (he:aqz es):Ret Tryz.prog w0 146 [I n,bqy es] (B (decide ((if bqf n es then ((aqu es).2:Int) else -1)=es.length))):=by
 intro H
 refine aqf Tryz.func146 rfl Tryz.ntmps146 (ts:=[4]) rfl (by simp) (by kernel_rfl) ?_
 repeat'(with_reducible first|(refine aqd (hK _ _ ?_);clear hK K)|refine vr [] fun K hK=>?_|(refine aqa fun K' hK'=>?_;simp[bqy];repeat'(first|(apply hK';clear hK' K')|refine Ret.use (rank3_ret he) ?_|fail))|apply aqc|refine sp ?_|fail)
 simp
theorem low_nat {y:Int} (h0:0<=y) (h1:y<4294967296):((BitVec.ofInt 64 y&&&4294967295#64).toNat:Int)=y:=by
 obtain ⟨n,rfl⟩:=Int.eq_ofNat_of_zero_le h0
 have:(BitVec.ofInt 64 (n:Int)&&&4294967295#64).toNat=n:=by
  rw [BitVec.toNat_and]
  have e1:(BitVec.ofInt 64 (n:Int)).toNat=n:=by simp;omega
  have e2:(4294967295#64).toNat=2^32-1:=by decide
  rw [e1,e2,Nat.and_two_pow_sub_one_eq_mod,Nat.mod_eq_of_lt (by omega)]
 rw [this]
abbrev U (n:Int):AV:= .sc (.int .u64 n)
theorem mul_fin {y:Int} (h0:0<=y) (h1:y<4294967296):((((BitVec.ofInt 64 y&&&4294967295#64).toNat%18446744073709551616:Int).fdiv 4294967296%18446744073709551616).fdiv 4294967296 +
  (((BitVec.ofInt 64 (((BitVec.ofInt 64 y&&&4294967295#64).toNat%18446744073709551616:Int).fdiv 4294967296%18446744073709551616)&&&4294967295#64).toNat+y.fdiv 4294967296)%18446744073709551616).fdiv 4294967296)%18446744073709551616=0/\
  y%18446744073709551616=y:=by
 have e0:y%18446744073709551616=y:=by omega
 have e1:y.fdiv 4294967296=0:=by rw [Int.fdiv_eq_ediv_of_nonneg _ (by omega)];omega
 rw [low_nat h0 h1,e0,e1]
 simp
theorem mul64_ret {y:Int} (h0:0<=y) (h1:y<4294967296):Ret Tryz.prog w0 219 [U 1,U y] (.tup [U 0,U y]):=by
 intro H
 refine aqf Tryz.func219 rfl Tryz.ntmps219 (ts:=[4,5]) rfl (by simp) (by kernel_rfl) ?_
 repeat'(with_reducible first|(refine aqd (hK _ _ ?_);clear hK K)|refine vr [] fun K hK=>?_|(refine aqa fun K' hK'=>?_;simp[IntKind.bits];repeat'(first|(apply hK';clear hK' K')|fail))|apply aqc|refine sp ?_|fail)
 simp [IntKind.wrap,IntKind.bits,IntKind.signed,IntKind.min,IntKind.max]
 exact mul_fin h0 h1
theorem mul_ret {y:Int} (h0:0<=y) (h1:y<4294967296):Ret Tryz.prog w0 206 [U 1,U y] (.tup [U 0,U y]):=by
 intro H
 refine aqf Tryz.func206 rfl Tryz.ntmps206 (ts:=[4,5]) rfl (by simp) (by kernel_rfl) ?_
 repeat'(with_reducible first|(refine aqd (hK _ _ ?_);clear hK K)|refine vr [] fun K hK=>?_|((first|refine aqa fun K' hK'=>?_|refine aqb fun K' B hK' hB=>?_);simp;repeat'(first|((first|refine hK' ?_|refine hB ?_);clear hK' hB K' B)|(apply hK';clear hK' K')|refine Ret.use (mul64_ret h0 h1) ?_|fail))|apply aqc|refine sp ?_|fail)
 simp
theorem u64_wrap {y:Int} (h0:0<=y) (h1:y<4294967296):IntKind.u64.wrap y=y:=by
 simp [IntKind.wrap,IntKind.bits,IntKind.signed,IntKind.min,IntKind.max];omega
theorem setL_rep {α:Type} {f:α->AV} {m k j:Nat} (x z:α):setL ((List.replicate m x++List.replicate (k+j) z).map f) m ((List.replicate k x).map f)=(List.replicate (m+k) x++List.replicate j z).map f:=by
 induction k generalizing m with
 | zero=>simp [setL]
 | succ k ih=>
  rw [List.replicate_succ,List.map_cons,setL]
  have:((List.replicate m x++List.replicate (k+1+j) z).map f).set m (f x)=(List.replicate (m+1) x++List.replicate (k+j) z).map f:=by
   have h:=hqo ((List.replicate m x).map f) (k+j) (f z) (f x)
   rw [List.length_map,List.length_replicate] at h
   rw [List.map_append,List.map_append,List.map_replicate (a:=z),show k+1+j=k+j+1 by omega,h]
   simp [List.replicate_succ']
  rw [this,ih]
  congr 2
  simp;omega
theorem iqn {x:Int} {n:Nat} (hn:n<4294967296):iqi Tryz.prog w0 188 [.sl [I x] 1,I n] 1 3 ((List.replicate n x).map I) n:=by
 intro H
 refine aqf Tryz.func188 rfl Tryz.ntmps188 (ts:=[4]) rfl (by simp) (by kernel_rfl) ?_
 have hw1:IntKind.u64.wrap 1=1:=by decide
 have hwn:=u64_wrap (y:=(n:Int)) (by omega) (by omega)
 repeat'(with_reducible first|(refine sp (hK _ _ ?_);clear hK K)|refine vr [] fun K hK=>?_|((first|refine aqa fun K' hK'=>?_|refine aqb fun K' B hK' hB=>?_|(apply aqk;refine aqe rfl fun K' hK'=>?_));simp[hw1,hwn];repeat'(first|((first|refine hK' ?_|refine hB ?_);clear hK' hB K' B)|(apply hK';clear hK' K')|refine Ret.use (mul_ret (y:=(n:Int)) (by omega) (by omega)) ?_|refine And.intro ?_ ?_|intro hg|(clear hK' K';omega)))|refine sp ?_|fail)
 rename_i r
 have hr:H r=none:=hg
 clear hg
 refine aqi (fun env h=>∃ m:Nat,m<=n/\(n=0\/0<m)/\env 8=I m/\env 7= .ref r 0 n n/\h=upd H r (some (.arr 1 3 ((List.replicate m x++List.replicate (n-m) 0).map I) n))) (fun env _=>n-natA (env 8)) ?_ ?_
 ·refine ⟨min 1 n,by omega,by omega,?_,by simp,?_⟩
  ·simp
  ·cases n with
   | zero=>simp [setL]
   | succ n=>
    have:min 1 (n+1)=1:=by omega
    rw [this]
    simp [setL,List.replicate_succ]
 rintro env h ⟨m,hm,h01,h8,h7,rfl⟩
 have hnat:natA (env 8)=m:=by simp [h8]
 rw [hnat];clear hnat
 by_cases hlt:m<n
 ·have hs:=setL_rep (f:=I) (m:=m) (k:=min m (n-m)) (j:=n-(m+min m (n-m))) x (0:Int)
  rw [show min m (n-m)+(n-(m+min m (n-m)))=n-m by omega] at hs
  simp only [List.map_append,List.map_replicate] at hs
  have hlen:((List.replicate m x++List.replicate (n-m) 0).map I).length=n:=by simp;omega
  repeat'(with_reducible first|(refine sp (hK _ _ ?_);clear hK K)|refine vr [] fun K hK=>?_|(refine vd [] [] mixed fun K hK=>?_)|((first|refine aqa fun K' hK'=>?_|refine aqb fun K' B hK' hB=>?_|refine aqn fun K' hK'=>?_);simp[h8,h7,hlt,hlen];repeat'(first|((first|refine hK' ?_|refine hB ?_);clear hK' hB K' B)|(apply hK';clear hK' K')|refine And.intro ?_ ?_|(clear hK' K';omega)))|refine sp ?_|fail)
  exact ⟨⟨m+min m (n-m),by omega,by omega,by simp,by simp [h7],by rw [hs];simp⟩,by simp;omega⟩
 ·have:m=n:=by omega
  subst this
  repeat'(with_reducible first|(refine sp (hK _ _ ?_);clear hK K)|refine vr [] fun K hK=>?_|((first|refine aqa fun K' hK'=>?_|refine aqb fun K' B hK' hB=>?_);simp[h8,h7];repeat'(first|((first|refine hK' ?_|refine hB ?_);clear hK' hB K' B)|(apply hK';clear hK' K')|fail))|apply aqc|refine sp ?_|fail)
  exact ⟨r,hr,by simp,by simp⟩
theorem fq5 {l:List Int} (hl:l.length<=1099511627776) {H:Heap} {K:AV->Heap->Prop} (k0:l=[]->K (.sl [] 0) H)
  (k1:∀ r,H r=none->K (.ref r 0 l.length l.length) (upd H r (some (.arr 1 3 (l.map I) l.length)))):aqo Tryz.prog w0 88 [ints l] H K:=by
 refine (?_:aqo Tryz.prog w0 88 [ints l] H (fun v H'=>(l=[]/\v= .sl [] 0/\H'=H)\/∃ r,H r=none/\v= .ref r 0 l.length l.length/\H'=upd H r (some (.arr 1 3 (l.map I) l.length)))).drop ?_
 ·refine aqf Tryz.func88 rfl Tryz.ntmps88 (ts:=[2]) rfl (by simp) (by kernel_rfl) ?_
  cases l with
  | nil=>
   repeat'(with_reducible first|(refine aqd (hK _ _ ?_);clear hK K)|refine vr [5] fun K hK=>?_|((first|refine aqa fun K' hK'=>?_|refine aqb fun K' B hK' hB=>?_);simp[ints];repeat'(first|((first|refine hK' ?_|refine hB ?_);clear hK' hB K' B)|(apply hK';clear hK' K')|refine And.intro ?_ ?_|intro hg|fail))|apply aqc|refine sp ?_|fail)
   ·refine .inr ⟨_,hg,?_,?_⟩<;>simp
   ·refine .inl ⟨rfl,?_,rfl⟩
    simp
  | cons x l=>
   have hl':l.length+1<=1099511627776:=by simpa using hl
   repeat'(with_reducible first|(refine aqd (hK _ _ ?_);clear hK K)|refine vr [5] fun K hK=>?_|((first|refine aqa fun K' hK'=>?_|refine aqb fun K' B hK' hB=>?_);simp[ints];repeat'(first|((first|refine hK' ?_|refine hB ?_);clear hK' hB K' B)|(apply hK';clear hK' K')|refine And.intro ?_ ?_|intro hg|(clear hK' K';omega)))|apply aqc|refine sp ?_|fail)
   all_goals try omega
   exact .inr ⟨_,hg,by simp,by simp⟩
 ·rintro v H' (⟨h,rfl,rfl⟩ | ⟨r,hr,rfl,rfl⟩)
  ·exact ⟨_,.refl _,k0 h⟩
  ·exact ⟨_,.refl _,k1 r hr⟩
def ptsB (l:List Int) (n:Int):Bool:=aqw (-1) l&&l.all fun x=>decide (x<n)
theorem fqo {l:List Int} {n:Int} (h:aqw (-1) l=true) (hne:l≠[]) (hlt:l.length-1<l.length):(l.all fun x=>decide (x<n))=decide (l[l.length-1]<n):=by
 have hu:=(aqs.1 h).up
 rw [Bool.eq_iff_iff]
 simp only [List.all_eq_true,decide_eq_true_eq]
 constructor
 ·intro h;exact h _ (List.getElem_mem _)
 ·intro h x hx
  obtain ⟨i,hi,rfl⟩:=List.mem_iff_getElem.1 hx
  by_cases e:i=l.length-1
  ·subst e;exact h
  ·have:=List.pairwise_iff_getElem.1 hu i (l.length-1) hi hlt (by omega)
   omega
theorem cqs {l:List Int} {n:Int} (hl:aqz l):Ret Tryz.prog w0 151 [ints l,I n] (B (ptsB l n)):=by
 intro H
 refine aqf Tryz.func151 rfl Tryz.ntmps151 (ts:=[4]) rfl (by simp) (by kernel_rfl) ?_
 cases hr:aqw (-1) l with
 | false=>
  repeat'(with_reducible first|(refine aqd (hK _ _ ?_);clear hK K)|refine vr [] fun K hK=>?_|((first|refine aqa fun K' hK'=>?_|(apply aqk;refine aqe rfl fun K' hK'=>?_));simp[ints,hr];repeat'(first|(apply hK';clear hK' K')|refine Ret.use (dqj hl) ?_|fail))|apply aqc|refine sp ?_|fail)
  simp [ptsB,hr]
 | true=>
  by_cases hne:l=[]
  ·subst hne
   repeat'(first|(with_reducible (refine aqd (hK _ _ ?_);clear hK K))|(with_reducible refine vr [] fun K hK=>?_)|((with_reducible first|refine aqa fun K' hK'=>?_|(apply aqk;refine aqe rfl fun K' hK'=>?_));simp[ints,hr];repeat'(first|(with_reducible (apply hK';clear hK' K'))|((with_reducible refine Ret.use_eq (dqj hl) ?_ ?_;(· simp));try simp[ints,hr])|fail))|(with_reducible first|apply aqc|refine sp ?_)|fail)
   all_goals try simp [ptsB,hr]
  ·have hpos:=List.length_pos_iff.2 hne
   have hlt:l.length-1<l.length:=by omega
   have hlast:=fqo (n:=n) hr hne hlt
   have hi:((l.length:Int)-1).toNat=l.length-1:=by omega
   have hi0:(0:Int)<=(l.length:Int)-1:=by omega
   repeat'(with_reducible first|(refine aqd (hK _ _ ?_);clear hK K)|refine vr [] fun K hK=>?_|((first|refine aqa fun K' hK'=>?_|(apply aqk;refine aqe rfl fun K' hK'=>?_));simp[ints,hr,hne,hi,hi0,hlt];repeat'(first|(apply hK';clear hK' K')|refine Ret.use (dqj hl) ?_|refine And.intro ?_ ?_|(clear hK' K';omega)))|apply aqc|refine sp ?_|fail)
   all_goals try omega
   all_goals try simp [ptsB,hr,hlast]
abbrev PredAt (w0:World) (f:FuncId) (caps:List AV) (ls:List (List Int)) (p:List Int->Bool) (H:Heap):Prop:=∀ l∈ls,bqp Tryz.prog w0 f (ints l::caps) (B (p l)) H
def idxI {α:Type} (p:α->Bool) (l:List α):Int:=match l.findIdx? p with
 | some k=>k
 | none=> -1
theorem kqp {α:Type} {p:α->Bool} {l:List α} {k:Nat} (h:k<l.length) (h0:∀ x∈l.take k,p x=false) (h1:p l[k]=true):idxI p l=k:=by
 have:l.findIdx? p=some k:=by
  rw [List.findIdx?_eq_some_iff_getElem]
  refine ⟨h,h1,fun j hj=> ?_⟩
  have:=h0 l[j] (by rw [List.mem_take_iff_getElem];exact ⟨j,by omega,rfl⟩)
  simp [this]
 rw [idxI,this]
theorem kqq {α:Type} {p:α->Bool} {l:List α} (h0:∀ x∈l,p x=false):idxI p l= -1:=by
 have:l.findIdx? p=none:=by rw [List.findIdx?_eq_none_iff];exact fun x hx=>by simp [h0 x hx]
 rw [idxI,this]
theorem idxI_any {α:Type} (p:α->Bool) (l:List α):decide (0<=idxI p l)=l.any p:=by
 unfold idxI
 cases h:l.findIdx? p with
 | none=>
  rw [List.findIdx?_eq_none_iff] at h
  symm
  simp only [Int.reduceNeg,Int.neg_nonneg,show ¬(1:Int)<=0 by omega,decide_false]
  rw [List.any_eq_false]
  intro x hx;simp [h x hx]
 | some k=>
  rw [List.findIdx?_eq_some_iff_getElem] at h
  obtain ⟨hk,hp,_⟩:=h
  have:l.any p=true:=by rw [List.any_eq_true];exact ⟨_,List.getElem_mem hk,hp⟩
  simp [this]
theorem indexRows_at {ls:List (List Int)} {f:FuncId} {caps:List AV} {p:List Int->Bool} {H:Heap} (hls:aqz ls) (hp:PredAt w0 f caps ls p H):
  bqp Tryz.prog w0 205 [rows ls,.clo f [] caps] (I (idxI p ls)) H:=by
 refine .of ?_
 refine aqf Tryz.func205 rfl Tryz.ntmps205 (ts:=[4]) rfl (by simp) (by kernel_rfl) ?_
 repeat'(with_reducible first|(refine aqd (hK _ _ ?_);clear hK K)|refine vr [] fun K hK=>?_|(refine aqa fun K' hK'=>?_;simp[rows];repeat'(first|(apply hK';clear hK' K')|fail))|refine sp ?_|fail)
 refine aqi (fun env h=>∃ k:Nat,k<=ls.length/\env 8=I k/\env 7=I ls.length/\env 0=rows ls/\env 1= .clo f [] caps/\(∀ x∈ls.take k,p x=false)/\h=H) (fun env _=>ls.length-natA (env 8)) ?_ ?_
 ·exact ⟨0,by omega,by simp,by simp,by simp [rows],by simp,by simp,rfl⟩
 rintro env h ⟨k,hk,h8,h7,h0,h1,ht,rfl⟩
 have hnat:natA (env 8)=k:=by simp [h8]
 rw [hnat];clear hnat
 by_cases hlt:k<ls.length
 ·have hpk:=hp ls[k] (List.getElem_mem _)
  cases hb:p ls[k] with
  | true=>
   have:=kqp hlt ht hb
   repeat'(first|(with_reducible (refine aqd (hK _ _ ?_);clear hK K))|(with_reducible refine vr [] fun K hK=>?_)|((with_reducible first|refine aqa fun K' hK'=>?_|refine aqb fun K' B hK' hB=>?_);simp[h8,h7,h0,h1,rows,hlt];repeat'(first|(with_reducible first|((first|refine hK' ?_|refine hB ?_);clear hK' hB K' B)|(apply hK';clear hK' K'))|((with_reducible refine bqp.use hpk ?_;simp only [hb]);try simp[h8,h7,h0,h1,rows,hlt])|fail))|(with_reducible first|apply aqc|refine sp ?_)|fail)
   simp [this]
  | false=>
   repeat'(first|(with_reducible (refine aqd (hK _ _ ?_);clear hK K))|(with_reducible refine vr [] fun K hK=>?_)|((with_reducible first|refine aqa fun K' hK'=>?_|refine aqb fun K' B hK' hB=>?_);simp[h8,h7,h0,h1,rows,hlt];repeat'(first|(with_reducible first|((first|refine hK' ?_|refine hB ?_);clear hK' hB K' B)|(apply hK';clear hK' K'))|((with_reducible refine bqp.use hpk ?_;simp only [hb]);try simp[h8,h7,h0,h1,rows,hlt])|(with_reducible refine And.intro ?_ ?_)|(clear hK' K';omega)))|(with_reducible refine sp ?_)|fail)
   refine ⟨⟨k+1,by omega,by simp,by simp [h7],by simp [h0],by simp [h1],fun x hx=> ?_,rfl⟩,by simp;omega⟩
   rw [List.take_succ_eq_append_getElem hlt,List.mem_append,List.mem_singleton] at hx
   rcases hx with hx | rfl
   ·exact ht x hx
   ·exact hb
 ·have:k=ls.length:=by omega
  subst this
  rw [List.take_length] at ht
  have:=kqq ht
  repeat'(with_reducible first|(refine aqd (hK _ _ ?_);clear hK K)|refine vr [] fun K hK=>?_|((first|refine aqa fun K' hK'=>?_|refine aqb fun K' B hK' hB=>?_);simp[h8,h7,h0,h1,rows];repeat'(first|((first|refine hK' ?_|refine hB ?_);clear hK' hB K' B)|(apply hK';clear hK' K')|fail))|apply aqc|refine sp ?_|fail)
  simp [this]
theorem cqx {ls:List (List Int)} {f:FuncId} {caps:List AV} {p:List Int->Bool} {H:Heap} (hls:aqz ls) (hp:PredAt w0 f caps ls p H):
  bqp Tryz.prog w0 186 [rows ls,.clo f [] caps] (B (ls.any p)) H:=by
 refine .of ?_
 have hi:=idxI_any p ls
 refine aqf Tryz.func186 rfl Tryz.ntmps186 (ts:=[4]) rfl (by simp) (by kernel_rfl) ?_
 repeat'(first|(with_reducible (refine aqd (hK _ _ ?_);clear hK K))|(with_reducible refine vr [] fun K hK=>?_)|((with_reducible refine aqa fun K' hK'=>?_);simp[rows];repeat'(first|(with_reducible (apply hK';clear hK' K'))|((with_reducible refine bqp.use (indexRows_at hls hp) ?_;try simp);try simp[rows])|fail))|(with_reducible first|apply aqc|refine sp ?_)|fail)
 simp [hi]
def mayG (adj:List (List Int)):Bool:=decide (adj.length<=4096)&&adj.all fun l=>ptsB l adj.length
theorem gr_iff {adj:List (List Int)}:mayG adj=true↔Gr adj:=by
 simp only [mayG,ptsB,Bool.and_eq_true,decide_eq_true_eq,List.all_eq_true,aqs]
 constructor
 ·rintro ⟨h1,h2⟩
  exact ⟨h1,fun l hl=>⟨(h2 l hl).1,fun x hx=>⟨((h2 l hl).1.ok x hx).1,(h2 l hl).2 x hx⟩⟩⟩
 ·rintro ⟨h1,h2⟩
  exact ⟨h1,fun l hl=>⟨(h2 l hl).set,fun x hx=>((h2 l hl).lt x hx).2⟩⟩
theorem fqn {l:List Int} {n:Nat}:ptsB l n=true↔Pts n l:=by
 simp only [ptsB,Bool.and_eq_true,decide_eq_true_eq,List.all_eq_true,aqs]
 exact ⟨fun h=>⟨h.1,fun x hx=>⟨(h.1.ok x hx).1,h.2 x hx⟩⟩,fun h=>⟨h.set,fun x hx=>(h.lt x hx).2⟩⟩
theorem may1_at {adj:List (List Int)} {l:List Int} (hl:aqz l) {H:Heap} {r:Nat} (hr:H r=some (.box [rows adj])):bqp Tryz.prog w0 187 [ints l,.ptr r 0 0] (B (!ptsB l adj.length)) H:=by
 refine .of ?_
 refine aqf Tryz.func187 rfl Tryz.ntmps187 (ts:=[3]) rfl (by simp) (by kernel_rfl) ?_
 repeat'(with_reducible first|(refine aqd (hK _ _ ?_);clear hK K)|refine vr [] fun K hK=>?_|(refine aqa fun K' hK'=>?_;simp[ints,rows,hr];repeat'(first|(apply hK';clear hK' K')|refine Ret.use (cqs hl) ?_|fail))|apply aqc|refine sp ?_|fail)
 simp
theorem cqa {adj:List (List Int)} (ha:aqz adj) (hl:∀ l∈adj,aqz l):Ret Tryz.prog w0 150 [rows adj] (B (mayG adj)):=by
 intro H
 have hany:(!adj.any fun l=> !ptsB l adj.length)=adj.all fun l=>ptsB l adj.length:=by rw [List.all_eq_not_any_not]
 refine aqf Tryz.func150 rfl Tryz.ntmps150 (ts:=[2]) rfl (by simp) (by kernel_rfl) ?_
 repeat'(first|(with_reducible (refine aqd (hK _ _ ?_);clear hK K))|(with_reducible refine vr [1] fun K hK=>?_)|((with_reducible first|refine aqa fun K' hK'=>?_|(apply aqk;refine aqe rfl fun K' hK'=>?_));simp[rows];repeat'(first|(with_reducible (apply hK';clear hK' K'))|((with_reducible refine bqp.use (cqx (p:=fun l=> !ptsB l adj.length) ha (fun l hm=>may1_at (hl l hm) (by simp [rows]))) ?_;try simp only [hany]);try simp[rows])|(with_reducible first|refine And.intro ?_ ?_|intro hg)|fail))|(with_reducible first|apply aqc|refine sp ?_)|fail)
 ·have hg':adj.length<=4096:=by omega
  refine ⟨by simp [mayG,hg',<-hany],?_⟩
  exact aqh (by assumption)
 ·have hg':¬adj.length<=4096:=by omega
  refine ⟨by simp [mayG,hg'],?_⟩
  exact aqh (by assumption)
def labI (n:Nat) (f:Int->Int):List AV:=(upto n).map fun x=>I (f x)
theorem aq5 (n:Nat) (f:Int->Int):(labI n f).length=n:=by simp [labI]
theorem fqz {n:Nat} {f:Int->Int} {x:Int} (h0:0<=x) (h:x.toNat<(labI n f).length):(labI n f)[x.toNat]=I (f x):=by
 simp only [labI,List.getElem_map,cqm]
 rw [show ((x.toNat:Nat):Int)=x by omega]
theorem lqy {n:Nat} {f g:Int->Int} (h:∀ x:Int,0<=x->x<n->f x=g x):labI n f=labI n g:=by
 apply List.map_congr_left
 intro x hx
 rw [h x (aqq.1 hx).1 (aqq.1 hx).2]
theorem nqc {n:Nat} {f:Int->Int} {w x:Int} (h0:0<=w):(labI n f).set w.toNat (I x)=labI n (fun y=>if y=w then x else f y):=by
 refine List.ext_getElem? fun i=> ?_
 rw [List.getElem?_set,aq5]
 simp only [labI,List.getElem?_map]
 by_cases hi:i<n
 ·have hu:(upto n)[i]? =some (i:Int):=by rw [List.getElem?_eq_getElem (by simpa using hi),cqm]
  rw [hu]
  simp only [Option.map_some]
  by_cases e:w.toNat=i
  ·rw [if_pos e,if_pos (by omega),if_pos (by omega)]
  ·rw [if_neg e,if_neg (by omega)]
 ·have hu:(upto n)[i]? =none:=List.getElem?_eq_none (by simpa using hi)
  rw [hu]
  by_cases e:w.toNat=i
  ·rw [if_pos e,if_neg (by omega)];rfl
  ·rw [if_neg e];rfl
def bh (H:Heap) (r b n:Nat) (f:Int->Int) (cells:List AV) (top:Nat):Heap:=upd (upd H r (some (.arr 1 3 (labI n f) n))) b (some (.arr 1 3 cells top))
section
variable {H:Heap} {r b n top:Nat} {f:Int->Int} {cells:List AV}
theorem bh_b:bh H r b n f cells top b=some (.arr 1 3 cells top):=by simp [bh]
theorem bh_r (h:r≠b):bh H r b n f cells top r=some (.arr 1 3 (labI n f) n):=by simp [bh,h]
theorem bh_set (h:r≠b) {w x:Int} (h0:0<=w):upd (bh H r b n f cells top) r (some (.arr 1 3 ((labI n f).set w.toNat (I x)) n))=bh H r b n (fun y=>if y=w then x else f y) cells top:=by
 unfold bh
 rw [aq9 _ _ _ (fun e=>h e.symm),aqx,nqc h0]
theorem bh_app {cells':List AV} {top':Nat}:upd (bh H r b n f cells top) b (some (.arr 1 3 cells' top'))=bh H r b n f cells' top':=by simp [bh]
theorem bh_new {b':Nat} (hb:H b=none) (h:r≠b) {cells':List AV} {top':Nat}:upd (upd (bh H r b n f cells top) b none) b' (some (.arr 1 3 cells' top'))=bh H r b' n f cells' top':=by
 unfold bh
 rw [aqx]
 congr 1
 exact aq7 (by rw [aqm _ _ _ (fun e=>h e.symm)];exact hb)
theorem bh_none {b':Nat} (h:bh H r b n f cells top b'=none):b'≠b/\b'≠r/\H b'=none:=by
 unfold bh at h
 by_cases e1:b'=b
 ·subst e1;simp [aqj] at h
 ·rw [aqm _ _ _ e1] at h
  by_cases e2:b'=r
  ·subst e2;simp [aqj] at h
  ·rw [aqm _ _ _ e2] at h;exact ⟨e1,e2,h⟩
end
theorem filter_parts {α:Type} (p:α->Bool) (l:List α):(l.filter p).length+(l.filter fun x=> !p x).length=l.length:=by
 induction l with
 | nil=>rfl
 | cons x l ih=>rw [List.filter_cons,List.filter_cons];cases p x<;>simp<;>omega
theorem hqf {n:Nat} {l:List Int} (hl:Pts n l):fqk n (fun x=>if x∈l then 0 else -1)+l.length=n:=by
 have h:=filter_parts (fun x=>decide (x∈l)) (upto n)
 have h1:(upto n).filter (fun x=>decide (x∈l))=l:=cqu ((dqh n).filter _) hl.set.up fun x=>by
  rw [List.mem_filter,aqq]
  exact ⟨fun h=>by simpa using h.2,fun h=>⟨hl.lt x h,by simpa using h⟩⟩
 have h2:(upto n).filter (fun x=>decide ((if x∈l then (0:Int) else -1)= -1))=(upto n).filter (fun x=> !decide (x∈l)):=by
  apply List.filter_congr
  intro x _
  by_cases hx:x∈l<;>simp [hx]
 rw [h1,aqv] at h
 unfold fqk
 rw [h2]
 omega
theorem far_new {adj:List (List Int)} {l:List Int} (hg:Gr adj) (hl:Pts adj.length l):iqi Tryz.prog w0 152 [rows adj,ints l] 1 3 (labI adj.length (bqc adj l)) adj.length:=by
 intro H
 have hlen:=hg.len
 have hll:=hl.length
 have hrep:((List.replicate adj.length (-1:Int)).map I)=labI adj.length (fun x=>if x∈l.take 0 then 0 else -1):=by
  simp only [labI,List.take_zero,List.not_mem_nil,if_false,List.map_const',List.map_replicate,aqv]
 refine aqf Tryz.func152 rfl Tryz.ntmps152 (ts:=[4]) rfl (by simp) (by kernel_rfl) ?_
 repeat'(first|(with_reducible (refine aqd (hK _ _ ?_);clear hK K))|(with_reducible refine vr [] fun K hK=>?_)|((with_reducible refine aqa fun K' hK'=>?_);simp[rows,ints];repeat'(first|(with_reducible (apply hK';clear hK' K'))|((with_reducible refine iqi.use (iqn (x:= -1) (n:=adj.length) (by omega)) (fun r hr=> ?_);simp only [hrep]);try simp[rows,ints])|fail))|(with_reducible refine sp ?_)|fail)
 refine aqi (fun env h=>∃ i:Nat,i<=l.length/\env 18=I i/\env 17=I l.length/\env 16=ints l/\env 0=rows adj/\env 1=ints l/\env 5= .ref r 0 adj.length adj.length/\h=upd H r (some (.arr 1 3 (labI adj.length (fun x=>if x∈l.take i then 0 else -1)) adj.length))) (fun env _=>l.length-natA (env 18)) ?_ ?_
 ·exact ⟨0,by omega,by simp,by simp,by simp [ints],by simp [rows],by simp [ints],by simp,by simp⟩
 rintro env h ⟨i,hi,h18,h17,h16,h0,h1,h5,rfl⟩
 have hnat:natA (env 18)=i:=by simp [h18]
 rw [hnat];clear hnat
 by_cases hlt:i<l.length
 ·have hx:=hl.lt l[i] (List.getElem_mem _)
  have hset:=nqc (n:=adj.length) (f:=fun x=>if x∈l.take i then 0 else -1) (x:=0) hx.1
  have hf:(fun y=>if y=l[i] then (0:Int) else if y∈l.take i then 0 else -1)=fun x=>if x∈l.take (i+1) then 0 else -1:=by
   funext y
   rw [List.take_succ_eq_append_getElem hlt]
   simp only [List.mem_append,List.mem_singleton]
   by_cases h1:y=l[i]<;>by_cases h2:y∈l.take i<;>simp [h1,h2]
  rw [hf] at hset
  have hx2:l[i].toNat<adj.length:=by omega
  have hlab:=aq5 adj.length (fun x=>if x∈l.take i then 0 else -1)
  generalize labI adj.length (fun x=>if x∈l.take i then 0 else -1)=cells at *
  repeat'(with_reducible first|(refine aqd (hK _ _ ?_);clear hK K)|refine vr [] fun K hK=>?_|((first|refine aqa fun K' hK'=>?_|refine aqb fun K' B hK' hB=>?_);simp[h18,h17,h16,h0,h1,h5,ints,rows,hlt,hx.1,hx2,hlab];repeat'(first|((first|refine hK' ?_|refine hB ?_);clear hK' hB K' B)|(apply hK';clear hK' K')|refine And.intro ?_ ?_|(clear hK' K';omega)))|refine sp ?_|fail)
  exact ⟨⟨i+1,by omega,by simp,by simp [h17],by simp [h16],by simp [h0],by simp [h1],by simp [h5],by rw [<-hset]⟩,by simp;omega⟩
 ·have:i=l.length:=by omega
  subst this
  rw [List.take_length]
  have hB:=BInv.start hl
  have hn0:l=[]->labI adj.length (fun x=>if x∈l then 0 else -1)=labI adj.length (bqc adj l):=by
   intro e
   subst e
   exact lqy fun x h0 h1=>hB.fin hg hl h0 h1
  repeat'(first|(with_reducible (refine aqd (hK _ _ ?_);clear hK K))|(with_reducible refine vr [] fun K hK=>?_)|((with_reducible first|refine aqa fun K' hK'=>?_|refine aqb fun K' B hK' hB=>?_);simp[h18,h17,h16,h0,h1,h5,ints,rows];repeat'(first|(with_reducible first|((first|refine hK' ?_|refine hB ?_);clear hK' hB K' B)|(apply hK';clear hK' K'))|((with_reducible refine fq5 (l:=l) (by omega) (fun hnil=> ?_) (fun q hq=> ?_));try simp[h18,h17,h16,h0,h1,h5,ints,rows])|fail))|(with_reducible refine sp ?_)|fail)
  ·-- nothing to begin with
   have hl0:=hn0 hnil
   refine aqi (fun env h=>env 8= .sl [] 0/\env 5= .ref r 0 adj.length adj.length/\h=upd H r (some (.arr 1 3 (labI adj.length (bqc adj l)) adj.length))) (fun _ _=>0) ?_ ?_
   ·exact ⟨by simp,by simp [h5],by rw [hl0]⟩
   rintro env h ⟨h8,h5,rfl⟩
   repeat'(with_reducible first|(refine aqd (hK _ _ ?_);clear hK K)|refine vr [] fun K hK=>?_|((first|refine aqa fun K' hK'=>?_|refine aqb fun K' B hK' hB=>?_);simp[h8,h5];repeat'(first|((first|refine hK' ?_|refine hB ?_);clear hK' hB K' B)|(apply hK';clear hK' K')|fail))|apply aqc|refine sp ?_|fail)
   exact ⟨r,hr,by simp,by simp⟩
  ·have hqr:q≠r:=by rintro rfl;simp at hq
   have hrq:r≠q:=fun e=>hqr e.symm
   have hq0:H q=none:=by rw [aqm _ _ _ hqr] at hq;exact hq
   clear hq
   refine iqz (fun N env h=>∃ (f:Int->Int) (qu:List Int) (b off:Nat) (cells:List AV),BInv adj l f qu/\N=fqk adj.length f+qu.length/\N<=adj.length/\(∀ x,f x+N<=adj.length)/\env 0=rows adj/\env 5= .ref r 0 adj.length adj.length/\
     b≠r/\H b=none/\env 8= .ref b off qu.length (off+qu.length)/\cells.length=off+qu.length/\cells.drop off=qu.map I/\h=bh H r b adj.length f cells (off+qu.length)) ?_ ?_
   ·exact ⟨_,_,l,q,0,l.map I,hB,rfl,by rw [hqf hl];omega,fun x=>by have:=hqf hl;split<;>omega,by simp [h0],by simp [h5],hqr,hq0,by simp,by simp,by simp,by simp [bh]⟩
   clear h18 h17 h16 h0 h1 h5 hB hqr hrq hq0
   rintro N env h ⟨f,qu,b,off,cells,hB,hN,hNn,hfN,h0,h5,hbr,hb0,h8,hcl,hcd,rfl⟩
   have hrb:r≠b:=fun e=>hbr e.symm
   cases qu with
   | nil=>
    have hfin:labI adj.length f=labI adj.length (bqc adj l):=lqy fun x h0 h1=>hB.fin hg hl h0 h1
    simp only [List.length_nil,Nat.add_zero] at *
    repeat'(with_reducible first|(refine aqd (hK _ _ ?_);clear hK K)|refine vr [] fun K hK=>?_|((first|refine aqa fun K' hK'=>?_|refine aqb fun K' B hK' hB=>?_);simp[h0,h5,h8,rows];repeat'(first|((first|refine hK' ?_|refine hB ?_);clear hK' hB K' B)|(apply hK';clear hK' K')|fail))|apply aqc|refine sp ?_|fail)
    refine ⟨r,hr,by simp,?_⟩
    unfold bh
    rw [hfin]
    exact aqh (by rw [aqm _ _ _ hbr];exact hb0)
   | cons v qu=>
    have hM:=hB.pop
    have hv:=hM.vv
    have hvn:v.toNat<adj.length:=by omega
    have hout:∀ h,adj[v.toNat]'h=out adj v:=fun h=>(out_eq h).symm
    have hop:=dqz hg v
    have hol:=hop.length
    have hc0:cells[off]? =some (I v):=by
     have:=congrArg (·[0]?) hcd
     simpa [List.getElem?_drop] using this
    have hlt:off<cells.length:=by rw [hcl];simp
    have hc0':∀ h,cells[off]'h=I v:=fun h=>by rw [List.getElem?_eq_getElem h] at hc0;simpa using hc0
    have hcd1:cells.drop (off+1)=qu.map I:=by
     have:=congrArg (List.drop 1) hcd
     simpa [List.drop_drop] using this
    clear hcd hc0 hB
    simp only [List.length_cons] at *
    repeat'(with_reducible first|(refine aqd (hK _ _ ?_);clear hK K)|refine vr [] fun K hK=>?_|((first|refine aqa fun K' hK'=>?_|refine aqb fun K' B hK' hB=>?_);simp[h0,h5,h8,rows,ints,bh_b,bh_r hrb,hlt,hc0',hvn,hout,hv.1];repeat'(first|((first|refine hK' ?_|refine hB ?_);clear hK' hB K' B)|(apply hK';clear hK' K')|refine And.intro ?_ ?_|(clear hK' K';omega)))|refine sp ?_|fail)
    generalize hws:out adj v=ws at *
    refine aqi (fun env h=>∃ (j:Nat) (f':Int->Int) (q':List Int) (b' off':Nat) (cells':List AV),j<=ws.length/\BMid adj l v (ws.take j) f' q'/\fqk adj.length f'+q'.length=fqk adj.length f+qu.length/\f' v=f v/\(∀ x,f' x+N<=adj.length+1)/\
      env 41=I j/\env 40=I ws.length/\env 39=ints ws/\env 9=I v/\env 0=rows adj/\env 5= .ref r 0 adj.length adj.length/\
      b'≠r/\H b'=none/\env 8= .ref b' off' q'.length (off'+q'.length)/\cells'.length=off'+q'.length/\cells'.drop off'=q'.map I/\h=bh H r b' adj.length f' cells' (off'+q'.length)) (fun env _=>ws.length-natA (env 41)) ?_ ?_
    ·have e:off+(qu.length+1)=off+1+qu.length:=by omega
     exact ⟨0,f,qu,b,off+1,cells,by omega,by simpa using hM,rfl,rfl,fun x=>by have:=hfN x;omega,by simp,by simp,by simp [ints],by simp,by simp [h0],by simp [h5],hbr,hb0,by simp [e],by omega,hcd1,by rw [e]⟩
    clear h0 h5 h8 hM hc0' hcl hcd1 hlt hbr hb0 hrb cells off b
    rintro env h ⟨j,f',q',b,off,cells,hj,hM,hsum,hfv,hfb,h41,h40,h39,h9,h0,h5,hbr,hb0,h8,hcl,hcd,rfl⟩
    have hrb:r≠b:=fun e=>hbr e.symm
    have hnat:natA (env 41)=j:=by simp [h41]
    rw [hnat];clear hnat
    by_cases hjl:j<ws.length
    ·have hw:=hop.lt ws[j] (List.getElem_mem _)
     have hwm:ws[j]∈out adj v:=by rw [hws];exact List.getElem_mem _
     have hwn:ws[j].toNat<adj.length:=by omega
     have hlab:=aq5 adj.length f'
     have hlw:∀ h:ws[j].toNat<(labI adj.length f').length,(labI adj.length f')[ws[j].toNat]'h=I (f' ws[j]):=fun h=>fqz hw.1 h
     have hlv:∀ h,(labI adj.length f')[v.toNat]'h=I (f' v):=fun h=>fqz hv.1 h
     have hts:ws.take (j+1)=ws.take j++[ws[j]]:=List.take_succ_eq_append_getElem hjl
     by_cases hfw:f' ws[j]= -1
     ·have hM2:=hM.new hg hl hwm hfw
      have hun:=unfound_new (y:=f' v+1) hw hfw (by have:=hM.vis v hv.1 hv.2.1 hM.vv.2.2;omega)
      have hfv2:0<=f' v/\f' v+N<=adj.length:=by
       have:=hM.vis v hv.1 hv.2.1 hM.vv.2.2
       have:=hfN v
       omega
      have hset:=bh_set (H:=H) (b:=b) (n:=adj.length) (top:=off+q'.length) (f:=f') (cells:=cells) hrb (x:=f' v+1) hw.1
      have hql:q'.length<=4096:=by omega
      have hvw:v≠ws[j]:=fun e=>by rw [<-e] at hfw;have:=hM.vv.2.2;exact this hfw
      by_cases hoff:off=0
      ·subst hoff
       simp only [Nat.zero_add,List.drop_zero] at *
       repeat'(with_reducible first|(refine aqd (hK _ _ ?_);clear hK K)|refine vr [] fun K hK=>?_|((first|refine aqa fun K' hK'=>?_|refine aqb fun K' B hK' hB=>?_);simp[h41,h40,h39,h9,h0,h5,h8,ints,rows,hjl,bh_b,bh_r hrb,hwn,hvn,hlab,hlw,hlv,hfw,hw.1,hv.1,hset,bh_app];repeat'(first|((first|refine hK' ?_|refine hB ?_);clear hK' hB K' B)|(apply hK';clear hK' K')|refine And.intro ?_ ?_|(clear hK' K';omega)))|refine sp ?_|fail)
       exact ⟨⟨j+1,_,q'++[ws[j]],b,0,cells++[I ws[j]],by omega,by rw [hts];exact hM2,by simp only [List.length_append,List.length_singleton];omega,by rw [if_neg hvw];exact hfv,
        fun x=>by have:=hfb x;split<;>omega,by simp,by simp [h40],by simp [h39],by simp [h9],by simp [h0],by simp [h5],hbr,hb0,by simp,by simp [hcl],by simp [hcd],by simp⟩,by simp;omega⟩
      ·repeat'(with_reducible first|(refine aqd (hK _ _ ?_);clear hK K)|refine vr [] fun K hK=>?_|((first|refine aqa fun K' hK'=>?_|refine aqb fun K' B hK' hB=>?_);simp[h41,h40,h39,h9,h0,h5,h8,ints,rows,hjl,bh_b,bh_r hrb,hwn,hvn,hlab,hlw,hlv,hfw,hw.1,hv.1,hset,hoff];repeat'(first|((first|refine hK' ?_|refine hB ?_);clear hK' hB K' B)|(apply hK';clear hK' K')|refine And.intro ?_ ?_|intro hg|(clear hK' K';omega)))|refine sp ?_|fail)
       rename_i r2
       obtain ⟨n1,n2,n3⟩:=bh_none hg
       exact ⟨⟨j+1,_,q'++[ws[j]],r2,0,q'.map I++[I ws[j]],by omega,by rw [hts];exact hM2,by simp only [List.length_append,List.length_singleton];omega,by rw [if_neg hvw];exact hfv,
        fun x=>by have:=hfb x;split<;>omega,by simp,by simp [h40],by simp [h39],by simp [h9],by simp [h0],by simp [h5],n2,n3,by simp,by simp,by simp,by simp [bh_new hb0 hrb,hcd]⟩,by simp;omega⟩
     ·repeat'(with_reducible first|(refine aqd (hK _ _ ?_);clear hK K)|refine vr [] fun K hK=>?_|((first|refine aqa fun K' hK'=>?_|refine aqb fun K' B hK' hB=>?_);simp[h41,h40,h39,h9,h0,h5,h8,ints,rows,hjl,bh_b,bh_r hrb,hwn,hlab,hlw,hfw,hw.1];repeat'(first|((first|refine hK' ?_|refine hB ?_);clear hK' hB K' B)|(apply hK';clear hK' K')|refine And.intro ?_ ?_|(clear hK' K';omega)))|refine sp ?_|fail)
      exact ⟨⟨j+1,f',q',b,off,cells,by omega,by rw [hts];exact hM.old hw hfw,hsum,hfv,hfb,by simp,by simp [h40],by simp [h39],by simp [h9],by simp [h0],by simp [h5],hbr,hb0,by simp [h8],hcl,hcd,rfl⟩,by simp;omega⟩
    ·have:j=ws.length:=by omega
     subst this
     rw [List.take_length] at hM
     repeat'(with_reducible first|(refine aqd (hK _ _ ?_);clear hK K)|refine vr [] fun K hK=>?_|((first|refine aqa fun K' hK'=>?_|refine aqb fun K' B hK' hB=>?_);simp[h41,h40,h39];repeat'(first|((first|refine hK' ?_|refine hB ?_);clear hK' hB K' B)|(apply hK';clear hK' K')|fail))|refine sp ?_|fail)
     exact ⟨fqk adj.length f'+q'.length,by omega,f',q',b,off,cells,(by rw [<-hws] at hM;exact hM.end),rfl,by omega,fun x=>by have:=hfb x;omega,by simp [h0],by simp [h5],hbr,hb0,by simp [h8],hcl,hcd,rfl⟩
end Go.Am
namespace Go.Am
set_option linter.unusedVariables false
section
variable {a b c:List Int} (ha:aq3 a) (hb:aq3 b) (hc:aq3 c)
include ha hb
theorem aq3.union:aq3 (dqx a b):=(eq0 ha hb).1
theorem aq3.minus:aq3 (dq9 a b):=(eq6 ha hb).1
theorem lqr {x:Int}:x∈dqx a b↔x∈a\/x∈b:=(eq0 ha hb).2 x
theorem iqq {x:Int}:x∈dq9 a b↔x∈a/\x∉b:=(eq6 ha hb).2 x
include hc
omit hc
theorem len_meet':(meetL a b).length+(dq9 a b).length=a.length:=by
 rw [meetL_eq ha hb,equ ha hb]
 clear ha hb
 induction a with
 | nil=>rfl
 | cons x a ih=>by_cases h:x∈b<;>simp [h]<;>omega
theorem len_union':(dqx a b).length=(dq9 a b).length+b.length:=by
 have h:(dqx a b).Perm (dq9 a b++b):=by
  rw [List.perm_ext_iff_of_nodup (ha.union hb).nodup]
  ·intro x
   rw [lqr ha hb,List.mem_append,iqq ha hb]
   by_cases h:x∈b<;>simp [h]
  ·rw [List.nodup_append]
   refine ⟨(ha.minus hb).nodup,hb.nodup,fun x hx y hy e=> ?_⟩
   subst e
   exact ((iqq ha hb).1 hx).2 hy
 rw [h.length_eq,List.length_append]
theorem minus_len_le:(dq9 a b).length<=a.length:=by have:=len_meet' ha hb;omega
theorem union_len_le:(dqx a b).length<=a.length+b.length:=by have:=len_union' ha hb;have:=minus_len_le ha hb;omega
end
theorem union_R (a b:List Int):dqx a b=bql a b:=by
 cases ha:aqw (-1) a with
 | false=>simp [dqx,bql,ha]
 | true=>
  cases hb:aqw (-1) b with
  | false=>simp [dqx,bql,ha,hb]
  | true=>exact jq2 (aqs.1 ha) (aqs.1 hb)
end Go.Am
namespace Go.Am
set_option linter.unusedVariables false
def nbM (adj:List (List Int)) (i:Int):List Int:=adj.getD i.toNat []
theorem nbM_toNat {adj:List (List Int)} {i:Int} (h:i.toNat<adj.length):adj[i.toNat]=nbM adj i:=by simp [nbM,h]
structure GrM (m:Nat) (adj:List (List Int)):Prop where
 nle:adj.length<=64
 mle:m<=64
 set:∀ l∈adj,aq3 l
 lt:∀ l∈adj,∀ x∈l,0<=x/\x<m
theorem GrM.nb {m:Nat} {adj:List (List Int)} (h:GrM m adj) {i x:Int} (hx:x∈nbM adj i):0<=x/\x<m:=by
 unfold nbM at hx
 rw [List.getD_eq_getElem?_getD] at hx
 cases hl:adj[i.toNat]? with
 | none=>rw [hl] at hx;simp at hx
 | some l=>
  rw [hl] at hx
  exact h.lt l (List.mem_of_getElem? hl) x hx
structure Good (m:Nat) (adj:List (List Int)) (f g:Int->Int):Prop where
 l:∀ i:Int,0<=i->i<adj.length->f i= -1\/(f i∈nbM adj i/\g (f i)=i)
 r:∀ k:Int,0<=k->k<m->g k= -1\/(0<=g k/\g k<adj.length/\f (g k)=k)
def Closed (adj:List (List Int)) (g:Int->Int) (Z:Int->Prop):Prop:=∀ k,Z k->g k≠ -1/\∀ y∈nbM adj (g k),Z y
structure RF (adj:List (List Int)) (g:Int->Int) (s s':Int->Bool):Prop where
 le:∀ k,s k=true->s' k=true
 new:∀ k,s' k=true->s k=false->g k≠ -1/\∀ y∈nbM adj (g k),s' y=true
theorem RF.refl (adj:List (List Int)) (g:Int->Int) (s:Int->Bool):RF adj g s s:=⟨fun _ h=>h,fun k h h'=>by rw [h] at h';cases h'⟩
def setF {α:Type} (f:Int->α) (x:Int) (v:α):Int->α:=fun y=>if y=x then v else f y
theorem aq1 {α:Type} (f:Int->α) (x:Int) (v:α):setF f x v x=v:=by simp [setF]
theorem aq4 {α:Type} (f:Int->α) {x y:Int} (v:α) (h:y≠x):setF f x v y=f y:=by simp [setF,h]
theorem RF.step {adj:List (List Int)} {g:Int->Int} {s s1 s2:Int->Bool} {k:Int} (h:RF adj g s s1) (hk:s1 k=false) (hg:g k≠ -1) (h2:RF adj g (setF s1 k true) s2) (hn:∀ y∈nbM adj (g k),s2 y=true):RF adj g s s2:=by
 have hle:∀ j,s1 j=true->s2 j=true:=fun j hj=>h2.le j (by by_cases e:j=k;(· subst e;exact aq1 _ _ _);(· rw [aq4 _ _ e];exact hj))
 refine ⟨fun j hj=>hle j (h.le j hj),fun j hj hj0=> ?_⟩
 by_cases e:j=k
 ·subst e;exact ⟨hg,hn⟩
 ·by_cases h1:s1 j=true
  ·obtain ⟨a,b⟩:=h.new j h1 hj0
   exact ⟨a,fun y hy=>hle y (b y hy)⟩
  ·exact h2.new j hj (by rw [aq4 _ _ e];simpa using h1)
structure RT (m:Nat) (adj:List (List Int)) (i:Int) (f g:Int->Int) (s:Int->Bool) (f' g':Int->Int) (s':Int->Bool):Prop where
 le:∀ k,s k=true->s' k=true
 keep:∀ k,s k=true->g' k=g k
 good:Good m adj f' (fun k=>if f i≠ -1/\k=f i then -1 else g' k)
 has:f' i≠ -1
 same:∀ j:Int,0<=j->j<adj.length->j≠i->(f' j= -1↔f j= -1)
 closed:∀ Z,Closed adj g Z->(∀ k,Z k->g' k=g k)/\¬ ∀ y∈nbM adj i,Z y
section
variable {m:Nat} {adj:List (List Int)} {i k:Int} {f g:Int->Int} {s s1:Int->Bool}
theorem rt_free (hG:GrM m adj) (hf:Good m adj f g) (hi0:0<=i) (hin:i<adj.length) (hs:f i= -1\/s (f i)=true) (h:RF adj g s s1) (hk:k∈nbM adj i) (hk1:s1 k=false) (hgk:g k= -1):
  RT m adj i f g s (setF f i k) (setF g k i) (setF s1 k true):=by
 obtain ⟨k0,km⟩:=hG.nb hk
 have hks:s k=false:=by
  cases e:s k with
  | false=>rfl
  | true=>rw [h.le k e] at hk1;cases hk1
 have hne:∀ j,s j=true->j≠k:=fun j hj e=>by subst e;rw [hks] at hj;cases hj
 refine ⟨fun j hj=> ?_,fun j hj=>aq4 _ _ (hne j hj),⟨fun j j0 jn=> ?_,fun j j0 jm=> ?_⟩,?_,fun j _ _ e=>by rw [aq4 _ _ e],fun Z hZ=>⟨fun j hj=> ?_,fun hall=> ?_⟩⟩
 ·rw [aq4 _ _ (hne j hj)];exact h.le j hj
 ·by_cases e:j=i
  ·subst e
   rw [aq1]
   refine .inr ⟨hk,?_⟩
   have:¬(f j≠ -1/\k=f j):=fun ⟨a,b⟩=>by rcases hs with hs | hs;(· exact a hs);(· exact hne _ hs b.symm)
   simp only [this,if_false,aq1]
  ·rw [aq4 _ _ e]
   rcases hf.l j j0 jn with h1 | ⟨h1,h2⟩
   ·exact .inl h1
   ·refine .inr ⟨h1,?_⟩
    have e1:f j≠k:=fun e=>by rw [e,hgk] at h2;omega
    have:¬(f i≠ -1/\f j=f i):=fun ⟨a,b⟩=>by
     rcases hf.l i hi0 hin with c | ⟨_,c⟩
     ·exact a c
     ·rw [b,c] at h2;exact e h2.symm
    simp only [this,if_false,aq4 _ _ e1,h2]
 ·by_cases e:f i≠ -1/\j=f i
  ·exact .inl (if_pos e)
  ·simp only [e,if_false]
   by_cases ek:j=k
   ·subst ek
    rw [aq1]
    exact .inr ⟨hi0,hin,aq1 _ _ _⟩
   ·rw [aq4 _ _ ek]
    rcases hf.r j j0 jm with h1 | ⟨h1,h2,h3⟩
    ·exact .inl h1
    ·refine .inr ⟨h1,h2,?_⟩
     have:g j≠i:=fun e'=>by rw [e'] at h3;exact e ⟨by omega,h3.symm⟩
     rw [aq4 _ _ this,h3]
 ·rw [aq1];omega
 ·have:j≠k:=fun e=>by subst e;exact (hZ j hj).1 hgk
  rw [aq4 _ _ this]
 ·exact (hZ k (hall k hk)).1 hgk
theorem rt_push {f2 g2:Int->Int} {s2:Int->Bool} (hG:GrM m adj) (hf:Good m adj f g) (hi0:0<=i) (hin:i<adj.length) (hs:f i= -1\/s (f i)=true) (h:RF adj g s s1) (hk:k∈nbM adj i) (hk1:s1 k=false) (hgk:g k≠ -1)
  (h2:RT m adj (g k) f g (setF s1 k true) f2 g2 s2):RT m adj i f g s (setF f2 i k) (setF g2 k i) s2:=by
 obtain ⟨k0,km⟩:=hG.nb hk
 have hks:s k=false:=by
  cases e:s k with
  | false=>rfl
  | true=>rw [h.le k e] at hk1;cases hk1
 have hne:∀ j,s j=true->j≠k:=fun j hj e=>by subst e;rw [hks] at hj;cases hj
 obtain ⟨g0,gn,fg⟩:0<=g k/\g k<adj.length/\f (g k)=k:=by
  rcases hf.r k k0 km with h1 | h1
  ·exact absurd h1 hgk
  ·exact h1
 have hii:i≠g k:=by
  intro e
  rw [<-e] at fg
  rcases hs with hs | hs
  ·omega
  ·exact hne _ hs fg
 have hup:∀ j,s j=true->setF s1 k true j=true:=fun j hj=>by rw [aq4 _ _ (hne j hj)];exact h.le j hj
 have hgood:=h2.good
 rw [fg] at hgood
 have hif:∀ j:Int,(if k≠ -1/\j=k then (-1:Int) else g2 j)=if j=k then -1 else g2 j:=by
  intro j
  have:k≠ -1:=by omega
  simp [this]
 simp only [hif] at hgood
 have hfi:f2 i=f i:=by
  rcases hs with hs | hs
  ·rw [hs];exact (h2.same i hi0 hin hii).2 hs
  ·rcases hf.l i hi0 hin with c | ⟨c1,c2⟩
   ·rw [c];exact (h2.same i hi0 hin hii).2 c
   ·have e1:f i≠k:=hne _ hs
    have e2:=h2.keep (f i) (hup _ hs)
    obtain ⟨d1,d2⟩:=hG.nb c1
    rcases hgood.r (f i) d1 d2 with h3 | ⟨_,_,h3⟩
    ·rw [if_neg e1,e2,c2] at h3;omega
    ·rw [if_neg e1,e2,c2] at h3;exact h3
 refine ⟨fun j hj=>h2.le j (hup j hj),fun j hj=> ?_,⟨fun j j0 jn=> ?_,fun j j0 jm=> ?_⟩,?_,fun j j0 jn e=> ?_,fun Z hZ=> ?_⟩
 ·rw [aq4 _ _ (hne j hj),h2.keep j (hup j hj)]
 ·by_cases e:j=i
  ·subst e
   rw [aq1]
   refine .inr ⟨hk,?_⟩
   have:¬(f j≠ -1/\k=f j):=fun ⟨a,b⟩=>by rcases hs with hs | hs;(· exact a hs);(· exact hne _ hs b.symm)
   simp only [this,if_false,aq1]
  ·rw [aq4 _ _ e]
   rcases hgood.l j j0 jn with h1 | ⟨h1,h3⟩
   ·exact .inl h1
   ·refine .inr ⟨h1,?_⟩
    by_cases e1:f2 j=k
    ·rw [if_pos e1] at h3;omega
    rw [if_neg e1] at h3
    have:¬(f i≠ -1/\f2 j=f i):=fun ⟨a,b⟩=>by
     rcases hs with hs | hs
     ·exact a hs
     ·rcases hf.l i hi0 hin with c | ⟨_,c⟩
      ·exact a c
      ·have:=h2.keep (f i) (hup _ hs)
       rw [<-b,h3,b,c] at this
       exact e this
    simp only [this,if_false,aq4 _ _ e1,h3]
 ·by_cases e:f i≠ -1/\j=f i
  ·exact .inl (if_pos e)
  ·simp only [e,if_false]
   by_cases ek:j=k
   ·subst ek
    rw [aq1]
    exact .inr ⟨hi0,hin,aq1 _ _ _⟩
   ·rw [aq4 _ _ ek]
    have:=hgood.r j j0 jm
    rw [if_neg ek] at this
    rcases this with h1 | ⟨h1,h3,h4⟩
    ·exact .inl h1
    ·refine .inr ⟨h1,h3,?_⟩
     have:g2 j≠i:=fun e'=>by rw [e',hfi] at h4;exact e ⟨by omega,h4.symm⟩
     rw [aq4 _ _ this,h4]
 ·rw [aq1];omega
 ·rw [aq4 _ _ e]
  by_cases e2:j=g k
  ·subst e2
   exact ⟨fun h=>absurd h h2.has,fun h=>by rw [fg] at h;omega⟩
  ·exact h2.same j j0 jn e2
 ·obtain ⟨h3,h4⟩:=h2.closed Z hZ
  have hkZ:¬Z k:=fun hz=>h4 (hZ k hz).2
  refine ⟨fun j hj=> ?_,fun hall=>hkZ (hall k hk)⟩
  have:j≠k:=fun e=>by subst e;exact hkZ hj
  rw [aq4 _ _ this,h3 j hj]
end
end Go.Am
namespace Go.Am
set_option linter.unusedVariables false
structure MInv (m:Nat) (adj:List (List Int)) (i:Nat) (f g:Int->Int):Prop where
 good:Good m adj f g
 later:∀ j:Int,(i:Int)<=j->j<adj.length->f j= -1
 why:∃ Z,Closed adj g Z/\∀ j:Int,0<=j->j<i->f j= -1->∀ y∈nbM adj j,Z y
theorem MInv.start (m:Nat) (adj:List (List Int)):MInv m adj 0 (fun _=> -1) (fun _=> -1):=
 ⟨⟨fun _ _ _=> .inl rfl,fun _ _ _=> .inl rfl⟩,fun _ _ _=>rfl,fun _=>False,fun _ h=>h.elim,fun j h0 h1=>by omega⟩
section
variable {m:Nat} {adj:List (List Int)} {i:Nat} {f g:Int->Int} {s':Int->Bool}
theorem MInv.no (h:MInv m adj i f g) (hi:i<adj.length) (r:RF adj g (fun _=>false) s') (hn:∀ y∈nbM adj i,s' y=true):MInv m adj (i+1) f g:=by
 obtain ⟨Z,z1,z2⟩:=h.why
 refine ⟨h.good,fun j a b=>h.later j (by omega) b,fun k=>Z k\/s' k=true,fun k hk=> ?_,fun j a b c y hy=> ?_⟩
 ·rcases hk with hk | hk
  ·exact ⟨(z1 k hk).1,fun y hy=> .inl ((z1 k hk).2 y hy)⟩
  ·obtain ⟨p,q⟩:=r.new k hk rfl
   exact ⟨p,fun y hy=> .inr (q y hy)⟩
 ·by_cases e:j=i
  ·subst e;exact .inr (hn y hy)
  ·exact .inl (z2 j a (by omega) c y hy)
theorem MInv.yes {f' g':Int->Int} (h:MInv m adj i f g) (hi:i<adj.length) (r:RT m adj i f g (fun _=>false) f' g' s'):MInv m adj (i+1) f' g':=by
 obtain ⟨Z,z1,z2⟩:=h.why
 have hfi:=h.later i (Int.le_refl _) (by omega)
 have hg:=r.good
 have e:(fun k=>if f i≠ -1/\k=f i then -1 else g' k)=g':=by
  funext k
  rw [if_neg (fun h=>h.1 hfi)]
 rw [e] at hg
 have hz:=(r.closed Z z1).1
 refine ⟨hg,fun j a b=>(r.same j (by omega) b (by omega)).2 (h.later j (by omega) b),Z,fun k hk=> ?_,fun j a b c y hy=> ?_⟩
 ·rw [hz k hk];exact z1 k hk
 ·have hji:j≠i:=fun e=>by subst e;exact r.has c
  exact z2 j a (by omega) ((r.same j a (by omega) hji).1 c) y hy
end
def cntM (n:Nat) (f:Int->Int):Nat:=(upto n).countP fun j=>decide (f j≠ -1)
structure Mtc (adj:List (List Int)) (f:Int->Int):Prop where
 nb:∀ i:Int,0<=i->i<adj.length->f i≠ -1->f i∈nbM adj i
 inj:∀ i j:Int,0<=i->i<adj.length->0<=j->j<adj.length->f i≠ -1->f i=f j->i=j
theorem Good.mtc {m:Nat} {adj:List (List Int)} {f g:Int->Int} (h:Good m adj f g):Mtc adj f:=by
 refine ⟨fun i a b c=> ?_,fun i j a b a' b' c e=> ?_⟩
 ·rcases h.l i a b with x | x
  ·exact absurd x c
  ·exact x.1
 ·rcases h.l i a b with x | x
  ·exact absurd x c
  rcases h.l j a' b' with y | y
  ·rw [e] at c;exact absurd y c
  rw [<-x.2,e,y.2]
structure Cv (m:Nat) (adj:List (List Int)) (l r:List Int):Prop where
 lset:aq3 l
 rset:aq3 r
 llt:∀ x∈l,x<adj.length
 rlt:∀ x∈r,x<m
 cover:∀ i:Int,0<=i->i<adj.length->i∉l->∀ y∈nbM adj i,y∈r
theorem bq3:∀ (A B:List Int),A.Nodup->(∀ x∈A,x∈B)->A.length<=B.length:=by
 intro A
 induction A with
 | nil=>intro B _ _;simp
 | cons x A ih=>
  intro B hn hs
  have hx:x∈B:=hs x (by simp)
  have h1:=ih (B.erase x) (List.nodup_cons.1 hn).2 fun y hy=>by
   have hne:y≠x:=fun e=>by subst e;exact (List.nodup_cons.1 hn).1 hy
   exact (List.mem_erase_of_ne hne).2 (hs y (by simp [hy]))
  rw [List.length_erase_of_mem hx] at h1
  have:=List.length_pos_of_mem hx
  simp only [List.length_cons]
  omega
theorem eqs (n:Nat):(upto n).Nodup:=(dqh n).imp fun h e=>by omega
theorem eqt {A:List Int} {f:Int->Int} (h:A.Nodup) (hi:∀ x∈A,∀ y∈A,f x=f y->x=y):(A.map f).Nodup:=by
 induction A with
 | nil=>simp
 | cons x A ih=>
  rw [List.map_cons,List.nodup_cons]
  refine ⟨fun hm=> ?_,ih (List.nodup_cons.1 h).2 fun a ha b hb=>hi a (by simp [ha]) b (by simp [hb])⟩
  obtain ⟨y,hy,e⟩:=List.mem_map.1 hm
  have:=hi y (by simp [hy]) x (by simp) e
  subst this
  exact (List.nodup_cons.1 h).1 hy
theorem cnt_split (p q:Int->Bool) (l:List Int):l.countP p=(l.filter fun x=>p x&&q x).length+(l.filter fun x=>p x&& !q x).length:=by
 induction l with
 | nil=>rfl
 | cons x l ih=>
  rw [List.countP_cons,List.filter_cons,List.filter_cons,ih]
  cases p x<;>cases q x<;>simp<;>omega
theorem Mtc.le {m:Nat} {adj:List (List Int)} {f:Int->Int} {l r:List Int} (h:Mtc adj f) (c:Cv m adj l r):cntM adj.length f<=l.length+r.length:=by
 unfold cntM
 rw [cnt_split _ (fun x=>decide (x∈l))]
 refine Nat.add_le_add ?_ ?_
 ·refine bq3 _ _ ((eqs _).filter _) fun x hx=> ?_
  have:=(List.mem_filter.1 hx).2
  simp at this;exact this.2
 ·have hm:∀ x∈(upto adj.length).filter (fun x=>decide (f x≠ -1)&& !decide (x∈l)),0<=x/\x<adj.length/\f x≠ -1/\x∉l:=by
   intro x hx
   have h1:=aqq.1 (List.mem_filter.1 hx).1
   have h2:=(List.mem_filter.1 hx).2
   simp at h2
   exact ⟨h1.1,h1.2,h2.1,h2.2⟩
  rw [<-List.length_map (f:=f)]
  refine bq3 _ _ (eqt ((eqs _).filter _) fun x hx y hy e=> ?_) fun x hx=> ?_
  ·obtain ⟨a,b,c1,_⟩:=hm x hx
   obtain ⟨a',b',_,_⟩:=hm y hy
   exact h.inj x y a b a' b' c1 e
  ·obtain ⟨y,hy,rfl⟩:=List.mem_map.1 hx
   obtain ⟨a,b,c1,c2⟩:=hm y hy
   exact c.cover y a b c2 _ (h.nb y a b c1)
def IsNu (m:Nat) (adj:List (List Int)) (v:Nat):Prop:=(∃ f,Mtc adj f/\cntM adj.length f=v)/\∃ l r,Cv m adj l r/\l.length+r.length=v
theorem IsNu.uniq {m:Nat} {adj:List (List Int)} {v v':Nat} (h:IsNu m adj v) (h':IsNu m adj v'):v=v':=by
 obtain ⟨⟨f,a,rfl⟩,l,r,b,e⟩:=h
 obtain ⟨⟨f',a',rfl⟩,l',r',b',e'⟩:=h'
 have:=a.le b'
 have:=a'.le b
 omega
structure Rch (m:Nat) (adj:List (List Int)) (f g:Int->Int) (rd s:Int->Bool):Prop where
 none:∀ j:Int,0<=j->j<adj.length->f j= -1->rd j=true/\∀ y∈nbM adj j,s y=true
 only:∀ j:Int,0<=j->j<adj.length->rd j=true->f j= -1\/∃ k:Int,0<=k/\k<m/\s k=true/\g k=j
 seen:∀ k:Int,0<=k->k<m->s k=true->g k≠ -1/\rd (g k)=true/\∀ y∈nbM adj (g k),s y=true
theorem Rch.cover {m:Nat} {adj:List (List Int)} {f g:Int->Int} {rd s:Int->Bool} (hG:GrM m adj) (hf:Good m adj f g) (h:Rch m adj f g rd s):
  Cv m adj ((upto adj.length).filter fun i=> !rd i) ((upto m).filter s)/\((upto adj.length).filter fun i=> !rd i).length+((upto m).filter s).length=cntM adj.length f:=by
 have hnl:=hG.nle
 have hml:=hG.mle
 refine ⟨⟨(cqd (by omega)).filter _,(cqd (by omega)).filter _,fun x hx=>(aqq.1 (List.mem_filter.1 hx).1).2,fun x hx=>(aqq.1 (List.mem_filter.1 hx).1).2,fun i a b c y hy=> ?_⟩,?_⟩
 ·have hr:rd i=true:=by
   cases e:rd i with
   | true=>rfl
   | false=>exact absurd (List.mem_filter.2 ⟨aqq.2 ⟨a,b⟩,by simp [e]⟩) c
  have hy2:=hG.nb hy
  refine List.mem_filter.2 ⟨aqq.2 hy2,?_⟩
  rcases h.only i a b hr with h1 | ⟨k,k0,km,hs,rfl⟩
  ·exact (h.none i a b h1).2 y hy
  ·exact (h.seen k k0 km hs).2.2 y hy
 ·rw [cntM,cnt_split _ rd]
  have e1:((upto adj.length).filter fun x=>decide (f x≠ -1)&& !rd x)=(upto adj.length).filter fun i=> !rd i:=by
   refine List.filter_congr fun x hx=> ?_
   obtain ⟨a,b⟩:=aqq.1 hx
   cases e:rd x with
   | true=>simp
   | false=>
    have:f x≠ -1:=fun h1=>by rw [(h.none x a b h1).1] at e;cases e
    simp [this]
  rw [e1,Nat.add_comm]
  congr 1
  have hs:∀ k∈(upto m).filter s,0<=k/\k<m/\s k=true:=fun k hk=>⟨(aqq.1 (List.mem_filter.1 hk).1).1,(aqq.1 (List.mem_filter.1 hk).1).2,(List.mem_filter.1 hk).2⟩
  have hg:∀ k∈(upto m).filter s,0<=g k/\g k<adj.length/\f (g k)=k:=by
   intro k hk
   obtain ⟨a,b,c⟩:=hs k hk
   rcases hf.r k a b with h1 | h1
   ·exact absurd h1 (h.seen k a b c).1
   ·exact h1
  refine Nat.le_antisymm ?_ ?_
  ·rw [<-List.length_map (f:=g)]
   refine bq3 _ _ (eqt ((eqs _).filter _) fun x hx y hy e=> ?_) fun x hx=> ?_
   ·rw [<-(hg x hx).2.2,e,(hg y hy).2.2]
   ·obtain ⟨k,hk,rfl⟩:=List.mem_map.1 hx
    obtain ⟨a,b,c⟩:=hs k hk
    obtain ⟨a',b',c'⟩:=hg k hk
    refine List.mem_filter.2 ⟨aqq.2 ⟨a',b'⟩,?_⟩
    rw [(h.seen k a b c).2.1,c']
    simp;omega
  ·have hm:∀ x∈(upto adj.length).filter (fun x=>decide (f x≠ -1)&&rd x),0<=x/\x<adj.length/\f x≠ -1/\rd x=true:=by
    intro x hx
    have h1:=aqq.1 (List.mem_filter.1 hx).1
    have h2:=(List.mem_filter.1 hx).2
    simp at h2
    exact ⟨h1.1,h1.2,h2.1,h2.2⟩
   have hlm:(((upto adj.length).filter fun x=>decide (f x≠ -1)&&rd x).map f).length=((upto adj.length).filter fun x=>decide (f x≠ -1)&&rd x).length:=List.length_map f
   rw [<-hlm]
   refine bq3 _ _ (eqt ((eqs _).filter _) fun x hx y hy e=> ?_) fun x hx=> ?_
   ·obtain ⟨a,b,c,_⟩:=hm x hx
    obtain ⟨a',b',_,_⟩:=hm y hy
    exact hf.mtc.inj x y a b a' b' c e
   ·obtain ⟨y,hy,rfl⟩:=List.mem_map.1 hx
    obtain ⟨a,b,c,d⟩:=hm y hy
    rcases h.only y a b d with h1 | ⟨k,k0,km,hk,rfl⟩
    ·exact absurd h1 c
    ·have:=hg k (List.mem_filter.2 ⟨aqq.2 ⟨k0,km⟩,hk⟩)
     rw [this.2.2]
     exact List.mem_filter.2 ⟨aqq.2 ⟨k0,km⟩,hk⟩
end Go.Am
namespace Go.Am
set_option linter.unusedVariables false
structure WQ (m:Nat) (adj:List (List Int)) (g:Int->Int) (i:Int) (q:Nat) (s rd s' rd':Int->Bool):Prop where
 le:∀ k,s k=true->s' k=true
 rle:∀ j,rd j=true->rd' j=true
 me:rd' i=true
 nb:∀ y∈(nbM adj i).take q,s' y=true
 only:∀ j,rd' j=true->rd j=true\/j=i\/∃ k,s' k=true/\s k=false/\g k=j
 new:∀ k,s' k=true->s k=false->0<=k/\k<m/\g k≠ -1/\rd' (g k)=true/\∀ y∈nbM adj (g k),s' y=true
section
variable {m:Nat} {adj:List (List Int)} {g:Int->Int} {i:Int} {q:Nat} {s rd s1 rd1 s2 rd2:Int->Bool}
theorem WQ.start:WQ m adj g i 0 s rd s (setF rd i true):=by
 refine ⟨fun _ h=>h,fun j h=> ?_,aq1 _ _ _,by simp,fun j h=> ?_,fun k h h'=>by rw [h] at h';cases h'⟩
 ·by_cases e:j=i
  ·subst e;exact aq1 _ _ _
  ·rw [aq4 _ _ e];exact h
 ·by_cases e:j=i
  ·exact .inr (.inl e)
  ·rw [aq4 _ _ e] at h;exact .inl h
theorem take_new {l:List Int} {k:Int} (hq:q<l.length) (hk:k=l[q]) {s:Int->Bool} (h:∀ y∈l.take q,s y=true) (hs:s k=true):∀ y∈l.take (q+1),s y=true:=by
 intro y hy
 rw [List.take_succ_eq_append_getElem hq,List.mem_append,List.mem_singleton] at hy
 rcases hy with hy | rfl
 ·exact h y hy
 ·rw [<-hk];exact hs
theorem WQ.seen (h:WQ m adj g i q s rd s1 rd1) (hq:q<(nbM adj i).length) {k:Int} (hk:k=(nbM adj i)[q]) (hs:s1 k=true):WQ m adj g i (q+1) s rd s1 rd1:=
 ⟨h.le,h.rle,h.me,take_new hq hk h.nb hs,h.only,h.new⟩
structure CI (m:Nat) (adj:List (List Int)) (f g:Int->Int) (q:Nat) (rd s:Int->Bool):Prop where
 none:∀ j:Int,0<=j->j<q->f j= -1->rd j=true/\∀ y∈nbM adj j,s y=true
 only:∀ j:Int,rd j=true->(f j= -1/\∀ y∈nbM adj j,s y=true)\/∃ k:Int,0<=k/\k<m/\s k=true/\g k=j
 seen:∀ k:Int,s k=true->0<=k/\k<m/\g k≠ -1/\rd (g k)=true/\∀ y∈nbM adj (g k),s y=true
theorem CI.start {f:Int->Int}:CI m adj f g 0 (fun _=>false) (fun _=>false):=⟨fun j a b=>by omega,fun j h=>(Bool.false_ne_true h).elim,fun k h=>(Bool.false_ne_true h).elim⟩
end
end Go.Am
namespace Go.Am
set_option linter.unusedVariables false
end Go.Am
namespace Go.Am
set_option linter.unusedVariables false
set_option linter.unusedSimpArgs false
structure FS where
 l:List Int
 up:l.Pairwise (· < ·)
namespace FS
instance:Membership Int FS:=⟨fun s x=>x∈s.l⟩
theorem mem_def {x:Int} {s:FS}:x∈s↔x∈s.l:=Iff.rfl
instance (x:Int) (s:FS):Decidable (x∈s):=inferInstanceAs (Decidable (x∈s.l))
@[simp,grind=] theorem mem_mk {x:Int} {l:List Int} (h:l.Pairwise (· < ·)):x∈(⟨l,h⟩:FS)↔x∈l:=Iff.rfl
theorem ext' {a b:FS} (h:a.l=b.l):a=b:=by cases a;cases b;simp at h;subst h;rfl
@[ext] theorem ext {a b:FS} (h:∀ x,x∈a↔x∈b):a=b:=ext' (cqu a.up b.up h)
instance:HasSubset FS:=⟨fun a b=>∀ x,x∈a->x∈b⟩
theorem sub_refl (a:FS):a⊆a:=fun _ h=>h
theorem sub_trans {a b c:FS} (h:a⊆b) (k:b⊆c):a⊆c:=fun x hx=>k x (h x hx)
theorem sub_anti {a b:FS} (h:a⊆b) (k:b⊆a):a=b:=ext fun x=>⟨h x,k x⟩
def fqs:List Int->List Int
 | []=>[]
 | x::l=>if x∈fqs l then fqs l else insL x (fqs l)
theorem iq9 (l:List Int):(fqs l).Pairwise (· < ·)/\∀ x,x∈fqs l↔x∈l:=by
 induction l with
 | nil=>exact ⟨.nil,by simp [fqs]⟩
 | cons y l ih=>
  rw [fqs]
  split
  ·rename_i h
   refine ⟨ih.1,fun x=> ?_⟩
   rw [ih.2,List.mem_cons]
   exact ⟨.inr,fun k=>k.elim (fun e=>by subst e;exact (ih.2 _).1 h) id⟩
  ·rename_i h
   refine ⟨up_insL ih.1 h,fun x=> ?_⟩
   rw [jqq,ih.2,List.mem_cons]
def ofList (l:List Int):FS:=⟨fqs l,(iq9 l).1⟩
@[simp,grind=] theorem mem_ofList {x:Int} {l:List Int}:x∈ofList l↔x∈l:=(iq9 l).2 x
def empty:FS:=⟨[],.nil⟩
instance:EmptyCollection FS:=⟨empty⟩
@[simp,grind=] theorem mem_empty {x:Int}:x∈(∅ :FS)↔False:=by show x∈([]:List Int)↔False;simp
instance:Insert Int FS:=⟨fun x s=>ofList (x::s.l)⟩
@[simp,grind=] theorem mem_insert {x y:Int} {s:FS}:x∈(insert y s:FS)↔x=y\/x∈s:=by
 show x∈ofList (y::s.l)↔_
 rw [mem_ofList,List.mem_cons];rfl
instance:Singleton Int FS:=⟨fun x=>ofList [x]⟩
@[simp,grind=] theorem mem_singleton {x y:Int}:x∈({y}:FS)↔x=y:=by
 show x∈ofList [y]↔_
 rw [mem_ofList,List.mem_singleton]
def filter (p:Int->Bool) (s:FS):FS:=⟨s.l.filter p,s.up.filter p⟩
@[simp,grind=] theorem mem_filter {p:Int->Bool} {s:FS} {x:Int}:x∈s.filter p↔x∈s/\p x=true:=by
 show x∈s.l.filter p↔_
 rw [List.mem_filter];rfl
instance:Union FS:=⟨fun a b=>ofList (a.l++b.l)⟩
@[simp,grind=] theorem mem_union {a b:FS} {x:Int}:x∈a∪b↔x∈a\/x∈b:=by
 show x∈ofList (a.l++b.l)↔_
 rw [mem_ofList,List.mem_append];rfl
instance:Inter FS:=⟨fun a b=>a.filter fun x=>decide (x∈b)⟩
@[simp,grind=] theorem mem_inter {a b:FS} {x:Int}:x∈a∩b↔x∈a/\x∈b:=by
 show x∈a.filter _↔_
 rw [mem_filter,decide_eq_true_eq]
instance:SDiff FS:=⟨fun a b=>a.filter fun x=> !decide (x∈b)⟩
@[simp,grind=] theorem mem_sdiff {a b:FS} {x:Int}:x∈a \ b↔x∈a/\x∉b:=by
 show x∈a.filter _↔_
 rw [mem_filter];simp
def erase (s:FS) (y:Int):FS:=s.filter fun x=>decide (x≠y)
@[simp,grind=] theorem mem_erase {s:FS} {x y:Int}:x∈s.erase y↔x∈s/\x≠y:=by
 rw [erase,mem_filter,decide_eq_true_eq]
def upTo (n:Nat):FS:=⟨upto n,dqh n⟩
@[simp,grind=] theorem mem_upTo {n:Nat} {x:Int}:x∈upTo n↔0<=x/\x<n:=by
 show x∈upto n↔_
 rw [aqq]
def card (s:FS):Nat:=s.l.length
theorem nodup (s:FS):s.l.Nodup:=s.up.imp fun h e=>by omega
theorem card_le {a b:FS} (h:a⊆b):a.card<=b.card:=bq3 a.l b.l a.nodup h
theorem card_ofNodup {l:List Int} {s:FS} (h:l.Nodup) (hs:∀ x,x∈s↔x∈l):s.card=l.length:=
 Nat.le_antisymm (bq3 s.l l s.nodup fun x hx=>(hs x).1 hx) (bq3 l s.l h fun x hx=>(hs x).2 hx)
@[simp] theorem mqd:(∅ :FS).card=0:=rfl
theorem card_insert {x:Int} {s:FS} (h:x∉s):(insert x s:FS).card=s.card+1:=
 card_ofNodup (l:=x::s.l) (List.nodup_cons.2 ⟨h,s.nodup⟩) fun y=>by rw [mem_insert,List.mem_cons];rfl
theorem cqj {x:Int} {s:FS} (h:x∈s):(insert x s:FS)=s:=ext fun y=>by grind
theorem card_insert_le (x:Int) (s:FS):s.card<=(insert x s:FS).card/\(insert x s:FS).card<=s.card+1:=by
 by_cases h:x∈s
 ·rw [cqj h];omega
 ·rw [card_insert h];omega
theorem eqa {x:Int} {s:FS} (h:x∈s):(insert x (s.erase x):FS)=s:=ext fun y=>by grind
theorem card_erase {x:Int} {s:FS} (h:x∈s):(s.erase x).card+1=s.card:=by
 have:=card_insert (x:=x) (s:=s.erase x) (by grind)
 rw [eqa h] at this
 omega
@[simp] theorem card_singleton (x:Int):({x}:FS).card=1:=card_ofNodup (l:=[x]) (by simp) fun y=>by simp
theorem fq7 {s:FS} (h:s.card=0):s= ∅ :=ext fun x=>by
 have:s.l=[]:=List.eq_nil_of_length_eq_zero h
 rw [mem_def,this];simp
@[simp] theorem card_upTo (n:Nat):(upTo n).card=n:=by simp [card,upTo]
theorem ind {P:FS->Prop} (h0:P ∅) (h1:∀ (x:Int) (s:FS),x∉s->P s->P (insert x s)) (s:FS):P s:=by
 have:∀ n (s:FS),s.card=n->P s:=by
  intro n
  induction n with
  | zero=>intro s h;rw [fq7 h];exact h0
  | succ n ih=>
   intro s h
   obtain ⟨x,hx⟩:∃ x,x∈s:=by
    cases e:s.l with
    | nil=>simp [card,e] at h
    | cons x l=>exact ⟨x,by rw [mem_def,e];simp⟩
   have:=h1 x (s.erase x) (by grind) (ih _ (by have:=card_erase hx;omega))
   rwa [eqa hx] at this
 exact this _ s rfl
theorem ind_up {P:FS->Prop} {a:FS} (h0:P a) (h1:∀ (x:Int) (s:FS),a⊆s->x∉s->P s->P (insert x s)) {b:FS} (h:a⊆b):P b:=by
 have:∀ d:FS,P (a∪d):=by
  intro d
  induction d using ind with
  | h0=>rw [show a∪ ∅ =a from ext fun x=>by grind];exact h0
  | h1 x s hx ih=>
   by_cases e:x∈a
   ·rw [show a∪insert x s=a∪s from ext fun y=>by grind];exact ih
   ·rw [show a∪insert x s=insert x (a∪s) from ext fun y=>by grind]
    exact h1 x _ (fun y hy=>by grind) (by grind) ih
 have e:=this b
 rwa [show a∪b=b from ext fun x=>by have:=h x;grind] at e
theorem card_union (a b:FS):(a∪b).card+(a∩b).card=a.card+b.card:=by
 induction a using ind with
 | h0=>
  rw [show (∅ ∪b:FS)=b from ext fun x=>by grind,show (∅ ∩b:FS)= ∅ from ext fun x=>by grind]
  simp
 | h1 x s hx ih=>
  rw [card_insert hx]
  by_cases h:x∈b
  ·rw [show insert x s∪b=s∪b from ext fun y=>by grind,show insert x s∩b=insert x (s∩b) from ext fun y=>by grind,card_insert (by grind)]
   omega
  ·rw [show insert x s∪b=insert x (s∪b) from ext fun y=>by grind,show insert x s∩b=s∩b from ext fun y=>by grind,card_insert (by grind)]
   omega
theorem card_sdiff (a b:FS):(a \ b).card+(a∩b).card=a.card:=by
 have:=card_union (a \ b) (a∩b)
 rw [show (a \ b)∪(a∩b)=a from ext fun x=>by grind,show (a \ b)∩(a∩b)= ∅ from ext fun x=>by grind,mqd] at this
 omega
theorem card_disj {a b:FS} (h:∀ x,x∈a->x∉b):(a∪b).card=a.card+b.card:=by
 have:=card_union a b
 rw [show a∩b= ∅ from ext fun x=>by have:=h x;grind,mqd] at this
 omega
theorem card_sub_eq {a b:FS} (h:a⊆b) (hc:b.card<=a.card):a=b:=by
 have h1:=card_sdiff b a
 rw [show b∩a=a from ext fun x=>by have:=h x;grind] at h1
 have h2:(b \ a).card=0:=by omega
 have h3:=fq7 h2
 refine sub_anti h fun x hx=> ?_
 by_cases e:x∈a
 ·exact e
 ·have:x∈b \ a:=by grind
  rw [h3] at this;simp at this
theorem mq1 {s:FS} (h:s≠ ∅):∃ x,x∈s:=by
 apply Classical.byContradiction
 intro hn
 exact h (ext fun x=>by simp;exact fun k=>hn ⟨x,k⟩)
end FS
end Go.Am
namespace Go.Am
set_option linter.unusedVariables false
set_option linter.unusedSimpArgs false
open FS
structure Rk (r:FS->Nat):Prop where
 r0:r ∅ =0
 one:∀ x s,r s<=r (insert x s)/\r (insert x s)<=r s+1
 sub:∀ x y s,r (insert x s)=r s->r (insert y s)=r s->r (insert y (insert x s))=r s
namespace Rk
variable {r:FS->Nat}
theorem mono (h:Rk r) {a b:FS} (hab:a⊆b):r a<=r b:=by
 refine FS.ind_up (P:=fun s=>r a<=r s) (Nat.le_refl _) (fun x s _ _ ih=> ?_) hab
 have:=(h.one x s).1
 omega
theorem le_card (h:Rk r) (s:FS):r s<=s.card:=by
 induction s using FS.ind with
 | h0=>rw [h.r0];simp
 | h1 x s hx ih=>have:=(h.one x s).2;rw [card_insert hx];omega
theorem le_union (h:Rk r) (a b:FS):r (a∪b)<=r a+b.card:=by
 induction b using FS.ind with
 | h0=>rw [show a∪ ∅ =a from FS.ext fun x=>by grind];simp
 | h1 x s hx ih=>
  rw [show a∪insert x s=insert x (a∪s) from FS.ext fun x=>by grind,card_insert hx]
  have:=(h.one x (a∪s)).2
  omega
theorem cl_mono (h:Rk r) {a b:FS} {x:Int} (hab:a⊆b) (hx:r (insert x a)=r a):r (insert x b)=r b:=by
 refine FS.ind_up (P:=fun s=>r (insert x s)=r s) hx (fun y s _ _ ih=> ?_) hab
 rcases Nat.lt_or_ge (r s) (r (insert y s)) with hlt | hge
 ·have h1:=(h.one y (insert x s)).2
  rw [show insert y (insert x s:FS)=insert x (insert y s) from FS.ext fun x=>by grind] at h1
  have h2:=(h.one x (insert y s)).1
  have h3:=(h.one y s).2
  omega
 ·have h1:=(h.one y s).1
  have h2:=h.sub y x s (by omega) ih
  omega
theorem cl_union (h:Rk r) {a b:FS} (hb:∀ x,x∈b->r (insert x a)=r a):r (a∪b)=r a:=by
 induction b using FS.ind with
 | h0=>rw [show a∪ ∅ =a from FS.ext fun x=>by grind]
 | h1 x s hx ih=>
  have e1:=ih fun y hy=>hb y (by grind)
  have e2:=h.cl_mono (a:=a) (b:=a∪s) (fun y hy=>by grind) (hb x (by grind))
  rw [show a∪insert x s=insert x (a∪s) from FS.ext fun x=>by grind]
  omega
theorem cl_of (h:Rk r) {a b:FS} (hab:a⊆b) (hb:∀ x,x∈b->r (insert x a)=r a):r b=r a:=by
 have:=h.cl_union (a:=a) (b:=b) hb
 rwa [show a∪b=b from FS.ext fun x=>by have:=hab x;grind] at this
theorem cl_trans (h:Rk r) {a b:FS} {x:Int} (hb:∀ y,y∈b->r (insert y a)=r a) (hx:r (insert x b)=r b):r (insert x a)=r a:=by
 have h1:=h.cl_mono (b:=a∪b) (fun y hy=>by grind) hx
 have h2:=h.cl_union hb
 have h3:=h.mono (a:=insert x a) (b:=insert x (a∪b)) (fun y hy=>by grind)
 have h4:=(h.one x a).1
 omega
theorem gain (h:Rk r) {a b:FS} (hab:a⊆b) (x:Int):r (insert x b)+r a<=r (insert x a)+r b:=by
 have h1:=h.one x a
 have h2:=h.one x b
 by_cases e:r (insert x a)=r a
 ·have:=h.cl_mono hab e;omega
 ·omega
theorem submod (h:Rk r) (a b:FS):r (a∪b)+r (a∩b)<=r a+r b:=by
 have key:∀ c:FS,a∩b⊆c->r (c∪b)+r (a∩b)<=r c+r b:=by
  intro c hc
  refine FS.ind_up (P:=fun c=>r (c∪b)+r (a∩b)<=r c+r b) ?_ (fun x s hs hx ih=> ?_) hc
  ·rw [show (a∩b)∪b=b from FS.ext fun x=>by grind];omega
  ·rw [show (insert x s:FS)∪b=insert x (s∪b) from FS.ext fun x=>by grind]
   have:=h.gain (a:=s) (b:=s∪b) (fun y hy=>by grind) x
   omega
 exact key a fun x hx=>by grind
def Ind (r:FS->Nat) (s:FS):Prop:=r s=s.card
theorem ind_empty (h:Rk r):Ind r ∅ :=by rw [Ind,h.r0];simp
theorem ind_sub (h:Rk r) {a b:FS} (hb:Ind r b) (hab:a⊆b):Ind r a:=by
 rw [Ind] at *
 have h1:=h.le_union a (b \ a)
 rw [show a∪(b \ a)=b from FS.ext fun x=>by have:=hab x;grind] at h1
 have h2:=card_sdiff b a
 rw [show b∩a=a from FS.ext fun x=>by have:=hab x;grind] at h2
 have h3:=h.le_card a
 omega
theorem ind_insert (h:Rk r) {s:FS} {x:Int} (hs:Ind r s) (hx:r (insert x s)≠r s):Ind r (insert x s)/\x∉s:=by
 have hn:x∉s:=fun k=>hx (by rw [cqj k])
 refine ⟨?_,hn⟩
 rw [Ind] at *
 rw [card_insert hn]
 have:=h.one x s
 omega
theorem ind_insert_iff (h:Rk r) {s:FS} {x:Int} (hs:Ind r s) (hx:x∉s):Ind r (insert x s)↔r (insert x s)≠r s:=by
 rw [Ind,card_insert hx]
 rw [Ind] at hs
 have:=h.one x s
 omega
theorem ind_out (h:Rk r) {s t:FS} {x:Int} (hs:Ind r s) (ht:t⊆s) (hx:x∈s) (hc:r (insert x t)=r t):x∈t:=by
 apply Classical.byContradiction
 intro hn
 have h1:=h.ind_sub hs (a:=insert x t) (fun y hy=>by have:=ht y;grind)
 have h2:=h.ind_sub hs ht
 rw [Ind] at h1 h2
 rw [card_insert hn] at h1
 omega
theorem cl_inter (h:Rk r) {s a b:FS} {x:Int} (hs:Ind r s) (ha:a⊆s) (hb:b⊆s) (h1:r (insert x a)=r a) (h2:r (insert x b)=r b):r (insert x (a∩b))=r (a∩b):=by
 by_cases hx:x∈s
 ·have e1:=h.ind_out hs ha hx h1
  have e2:=h.ind_out hs hb hx h2
  rw [cqj (by grind)]
 ·have i1:=h.ind_sub hs ha
  have i2:=h.ind_sub hs hb
  have i3:=h.ind_sub hs (a:=a∩b) (fun y hy=>by have:=ha y;grind)
  have i4:=h.ind_sub hs (a:=a∪b) (fun y hy=>by have:=ha y;have:=hb y;grind)
  have h3:=h.submod (insert x a) (insert x b)
  rw [show (insert x a:FS)∩insert x b=insert x (a∩b) from FS.ext fun y=>by have:=ha y;have:=hb y;grind] at h3
  have h4:=h.mono (a:=a∪b) (b:=insert x a∪insert x b) (fun y hy=>by grind)
  have h5:=h.one x (a∩b)
  have h6:=card_union a b
  rw [Ind] at i1 i2 i3 i4
  omega
def Fund (r:FS->Nat) (s:FS) (x:Int):FS:=s.filter fun y=>decide (r (insert x (s.erase y))≠r (s.erase y))
theorem mem_fund {s:FS} {x y:Int}:y∈Fund r s x↔y∈s/\r (insert x (s.erase y))≠r (s.erase y):=by
 rw [Fund,mem_filter,decide_eq_true_eq]
theorem cl_fund (h:Rk r) {s:FS} {x:Int} (hs:Ind r s) (hx:r (insert x s)=r s):r (insert x (Fund r s x))=r (Fund r s x):=by
 have key:∀ d:FS,d⊆s->(∀ y,y∈d->r (insert x (s.erase y))=r (s.erase y))->r (insert x (s \ d))=r (s \ d):=by
  intro d
  induction d using FS.ind with
  | h0=>intro _ _;rw [show s \ ∅ =s from FS.ext fun x=>by grind];exact hx
  | h1 y d hy ih=>
   intro hd hall
   have e1:=ih (fun z hz=>hd z (by grind)) (fun z hz=>hall z (by grind))
   have e2:=h.cl_inter hs (a:=s \ d) (b:=s.erase y) (fun z hz=>by grind) (fun z hz=>by grind) e1 (hall y (by grind))
   rwa [show (s \ d)∩s.erase y=s \ insert y d from FS.ext fun z=>by grind] at e2
 have:=key (s.filter fun y=>decide (r (insert x (s.erase y))=r (s.erase y))) (fun y hy=>by grind) (fun y hy=>by simpa using (mem_filter.1 hy).2)
 rwa [show s \ s.filter (fun y=>decide (r (insert x (s.erase y))=r (s.erase y)))=Fund r s x from FS.ext fun y=>by rw [mem_fund];grind] at this
theorem swap_ind (h:Rk r) {s:FS} {x y:Int} (hs:Ind r s) (hy:y∈s) (hx:x∉s):Ind r (insert x (s.erase y))↔r (insert x (s.erase y))≠r (s.erase y):=
 h.ind_insert_iff (h.ind_sub hs fun z hz=>by grind) (by grind)
instance (s:FS):Decidable (Ind r s):=inferInstanceAs (Decidable (r s=s.card))
def grd (r:FS->Nat):List Int->FS->FS
 | [],s=>s
 | x::l,s=>grd r l (if r (insert x s)=(insert x s:FS).card then insert x s else s)
theorem grd_spec (h:Rk r):∀ (l:List Int) (s:FS),Ind r s->Ind r (grd r l s)/\s⊆grd r l s/\(∀ x,x∈grd r l s->x∈s\/x∈l)/\∀ x∈l,r (insert x (grd r l s))=r (grd r l s):=by
 intro l
 induction l with
 | nil=>intro s hs;exact ⟨hs,sub_refl _,fun x hx=> .inl hx,by simp⟩
 | cons y l ih=>
  intro s hs
  rw [grd]
  by_cases e:r (insert y s)=(insert y s:FS).card
  ·rw [if_pos e]
   obtain ⟨a,b,c,d⟩:=ih (insert y s) e
   refine ⟨a,fun x hx=>b x (by grind),fun x hx=> ?_,fun x hx=> ?_⟩
   ·have:=c x hx;grind
   ·rcases List.mem_cons.1 hx with rfl | hx
    ·rw [cqj (b _ (by grind))]
    ·exact d x hx
  ·rw [if_neg e]
   obtain ⟨a,b,c,d⟩:=ih s hs
   refine ⟨a,b,fun x hx=> ?_,fun x hx=> ?_⟩
   ·have:=c x hx;grind
   ·rcases List.mem_cons.1 hx with rfl | hx
    ·refine h.cl_mono b ?_
     apply Classical.byContradiction
     intro k
     exact e (h.ind_insert hs k).1
    ·exact d x hx
theorem grd_rank (h:Rk r) (s:FS):Ind r (grd r s.l ∅)/\grd r s.l ∅ ⊆s/\(grd r s.l ∅).card=r s/\∀ x,x∈s->r (insert x (grd r s.l ∅))=r (grd r s.l ∅):=by
 obtain ⟨a,b,c,d⟩:=h.grd_spec s.l ∅ h.ind_empty
 have hs:grd r s.l ∅ ⊆s:=fun x hx=>(c x hx).elim (fun k=>by simp at k) id
 refine ⟨a,hs,?_,d⟩
 have:=h.cl_of hs d
 rw [this]
 exact a.symm
theorem exists_base (h:Rk r) (s:FS):∃ b,Ind r b/\b⊆s/\b.card=r s/\∀ x,x∈s->r (insert x b)=r b:=⟨_,h.grd_rank s⟩
end Rk
end Go.Am
namespace Go.Am
set_option linter.unusedVariables false
set_option linter.unusedSimpArgs false
open FS
namespace Rk
variable {r r':FS->Nat}
theorem zero:Rk (fun _=>0):=⟨rfl,fun _ _=>by omega,fun _ _ _ _ _=>rfl⟩
theorem free:Rk FS.card:=by
 refine ⟨by simp,fun x s=>card_insert_le x s,fun x y s h1 h2=> ?_⟩
 by_cases hx:x∈s
 ·rw [cqj hx];exact h2
 ·rw [card_insert hx] at h1;omega
structure Im (f:FS->FS):Prop where
 e:f ∅ = ∅
 i:∀ x,(∀ s,f (insert x s)=f s)\/∃ y,∀ s,f (insert x s)=insert y (f s)
theorem pull (h:Rk r) {f:FS->FS} (hf:Im f):Rk (fun s=>r (f s)):=by
 refine ⟨by rw [hf.e];exact h.r0,fun x s=> ?_,fun x y s h1 h2=> ?_⟩
 ·rcases hf.i x with k | ⟨y,k⟩
  ·rw [k];omega
  ·rw [k];exact h.one y (f s)
 ·try simp only at h1 h2 ⊢
  rcases hf.i x with k | ⟨a,k⟩<;>rcases hf.i y with k' | ⟨b,k'⟩<;>simp only [k,k'] at h1 h2 ⊢
  ·exact h2
  ·exact h1
  ·exact h.sub a b _ h1 h2
theorem im_inter (E:FS):Im (fun s=>s∩E):=by
 refine ⟨FS.ext fun x=>by grind,fun x=> ?_⟩
 by_cases hx:x∈E
 ·exact .inr ⟨x,fun s=>FS.ext fun y=>by grind⟩
 ·exact .inl fun s=>FS.ext fun y=>by grind
theorem cut (h:Rk r) (E:FS):Rk (fun s=>r (s∩E)):=h.pull (im_inter E)
theorem add (h:Rk r) (h':Rk r') (hd:∀ x,(∀ s,r (insert x s)=r s)\/∀ s,r' (insert x s)=r' s):Rk (fun s=>r s+r' s):=by
 refine ⟨?_,fun x s=> ?_,fun x y s h1 h2=> ?_⟩
 ·have:=h.r0;have:=h'.r0;omega
 ·have:=h.one x s;have:=h'.one x s
  rcases hd x with k | k<;>have:=k s<;>omega
 ·have a1:=h.one x s;have a2:=h'.one x s;have a3:=h.one y s;have a4:=h'.one y s
  try simp only at h1 h2 ⊢
  have:=h.sub x y s (by omega) (by omega)
  have:=h'.sub x y s (by omega) (by omega)
  omega
theorem trunc (h:Rk r) (k:Nat):Rk (fun s=>min (r s) k):=by
 refine ⟨by have:=h.r0;omega,fun x s=>by have:=h.one x s;omega,fun x y s h1 h2=> ?_⟩
 have a1:=h.one x s;have a3:=h.one y s;have a5:=h.one y (insert x s)
 try simp only at h1 h2 ⊢
 by_cases e:r (insert x s)=r s
 ·by_cases e':r (insert y s)=r s
  ·have:=h.sub x y s e e';omega
  ·omega
 ·omega
theorem contract (h:Rk r) (T:FS):Rk (fun s=>r (s∪T)-r T):=by
 have hm:∀ s,r T<=r (s∪T):=fun s=>h.mono fun x hx=>by grind
 have hi:∀ (x:Int) (s:FS),insert x s∪T=insert x (s∪T):=fun x s=>FS.ext fun y=>by grind
 refine ⟨?_,fun x s=> ?_,fun x y s h1 h2=> ?_⟩
 ·rw [show (∅ ∪T:FS)=T from FS.ext fun y=>by grind];omega
 ·have:=h.one x (s∪T);have:=hm s;simp only [hi];omega
 ·simp only [hi] at h1 h2 ⊢
  have a1:=h.one x (s∪T);have a2:=h.one y (s∪T);have a3:=hm s
  have:=h.sub x y (s∪T) (by omega) (by omega)
  omega
theorem dual (h:Rk r) (E:FS):Rk (fun s=>(s∩E).card+r (E \ s)-r E):=by
 have key:∀ s,r E<=(s∩E).card+r (E \ s):=fun s=>by
  have:=h.le_union (E \ s) (s∩E)
  rw [show (E \ s)∪(s∩E)=E from FS.ext fun y=>by grind] at this
  omega
 have step:∀ (x:Int) (s:FS),x∈E->x∉s->((insert x s:FS)∩E).card=(s∩E).card+1/\(insert x (E \ insert x s):FS)=E \ s:=fun x s hx hs=>by
  constructor
  ·rw [show (insert x s:FS)∩E=insert x (s∩E) from FS.ext fun y=>by grind,card_insert (by grind)]
  ·exact FS.ext fun y=>by grind
 have none:∀ (x:Int) (s:FS),x∉E\/x∈s->(insert x s:FS)∩E=s∩E/\E \ insert x s=E \ s:=fun x s hx=>by
  constructor<;>exact FS.ext fun y=>by grind
 refine ⟨?_,fun x s=> ?_,fun x y s h1 h2=> ?_⟩
 ·try simp only
  rw [show (∅ ∩E:FS)= ∅ from FS.ext fun y=>by grind,show E \ ∅ =E from FS.ext fun y=>by grind]
  simp
 ·try simp only
  by_cases hx:x∈E/\x∉s
  ·obtain ⟨e1,e2⟩:=step x s hx.1 hx.2
   have:=h.one x (E \ insert x s)
   rw [e2] at this
   have:=key s;have:=key (insert x s)
   omega
  ·obtain ⟨e1,e2⟩:=none x s (by grind)
   rw [e1,e2];omega
 ·try simp only at h1 h2 ⊢
  by_cases hx:x∈E/\x∉s
  ·by_cases hy:y∈E/\y∉(insert x s:FS)
   ·obtain ⟨e1,e2⟩:=step x s hx.1 hx.2
    obtain ⟨e3,e4⟩:=step y (insert x s) hy.1 hy.2
    obtain ⟨e5,e6⟩:=step y s hy.1 (by grind)
    have hc:(insert y (insert x s):FS)=insert x (insert y s):=FS.ext fun z=>by grind
    obtain ⟨e7,e8⟩:=step x (insert y s) hx.1 (by grind)
    have k0:=key s;have k1:=key (insert x s);have k2:=key (insert y s);have k3:=key (insert y (insert x s))
    have a1:=h.one y (E \ insert y (insert x s))
    have a2:=h.one x (E \ insert y (insert x s))
    rw [e4] at a1
    rw [hc,e8,<-hc] at a2
    have hsub:=h.sub x y (E \ insert y (insert x s))
    rw [hc,e8,<-hc,e4,show (insert y (E \ insert y s):FS)=E \ s from e6] at hsub
    omega
   ·obtain ⟨e1,e2⟩:=none y (insert x s) (by grind)
    rw [e1,e2];exact h1
  ·obtain ⟨e1,e2⟩:=none x s (by grind)
   have hc:(insert y (insert x s):FS)=insert x (insert y s):=FS.ext fun z=>by grind
   obtain ⟨e3,e4⟩:=none x (insert y s) (by grind)
   rw [hc,e3,e4];exact h2
end Rk
end Go.Am
namespace Go.Am
set_option linter.unusedVariables false
set_option linter.unusedSimpArgs false
open FS
def edgF (l:List (List Int)) (x:Int):List (Int×Int):=if 0<=x then (match l[x.toNat]? with | some r=>[(r.getD 0 0,r.getD 1 0)] | none=>[]) else []
def grE (l:List (List Int)) (s:FS):List (Int×Int):=s.l.flatMap (edgF l)
def grR (l:List (List Int)) (s:FS):Nat:=(aqu (grE l s)).2
section
variable {l:List (List Int)} {n:Nat}
theorem gq0 {s:FS} {e:Int×Int}:e∈grE l s↔∃ x,x∈s/\e∈edgF l x:=by simp [grE,FS.mem_def]
theorem iqv (x:Int):edgF l x=[]\/∃ e,edgF l x=[e]:=by
 unfold edgF
 split
 ·split
  ·exact .inr ⟨_,rfl⟩
  ·exact .inl rfl
 ·exact .inl rfl
theorem fq0 (hb:∀ r∈l,(r.getD 0 0).toNat<n/\(r.getD 1 0).toNat<n) (s:FS):mqe n (grE l s):=fun e he=>by
 obtain ⟨x,hx,he⟩:=gq0.1 he
 unfold edgF at he
 split at he
 ·split at he
  ·rename_i r hr
   simp only [List.mem_singleton] at he
   subst he
   exact hb r (List.mem_of_getElem? hr)
  ·simp at he
 ·simp at he
theorem nqj (hb:∀ r∈l,(r.getD 0 0).toNat<n/\(r.getD 1 0).toNat<n) {x:Int} (h:edgF l x=[]) (s:FS):grR l (insert x s)=grR l s:=
 hqs (fq0 hb _) fun e=>by
  rw [gq0,gq0]
  constructor
  ·rintro ⟨y,hy,he⟩
   rcases FS.mem_insert.1 hy with rfl | hy
   ·rw [h] at he;simp at he
   ·exact ⟨y,hy,he⟩
  ·rintro ⟨y,hy,he⟩;exact ⟨y,FS.mem_insert.2 (.inr hy),he⟩
theorem kqt {x:Int} {e:Int×Int} (h:edgF l x=[e]) (s:FS) (f:Int×Int):f∈grE l (insert x s)↔f∈grE l s++[e]:=by
 rw [List.mem_append,List.mem_singleton,gq0,gq0]
 constructor
 ·rintro ⟨y,hy,he⟩
  rcases FS.mem_insert.1 hy with rfl | hy
  ·rw [h] at he;exact .inr (by simpa using he)
  ·exact .inl ⟨y,hy,he⟩
 ·rintro (⟨y,hy,he⟩ | rfl)
  ·exact ⟨y,FS.mem_insert.2 (.inr hy),he⟩
  ·exact ⟨x,FS.mem_insert.2 (.inl rfl),by rw [h];simp⟩
theorem step_in {s:(Nat->Nat)×Nat} {e:Int×Int} (h:(eq2 s e).2=s.2):eq2 s e=s:=by
 unfold eq2 at h ⊢
 by_cases k:s.1 e.1.toNat=s.1 e.2.toNat
 ·simp only [k,Nat.max_self,Nat.min_self,if_true]
  exact Prod.ext (funext fun w=>by simp only;split<;>simp [*]) rfl
 ·simp only [k,if_false] at h;omega
theorem gr_rk (hb:∀ r∈l,(r.getD 0 0).toNat<n/\(r.getD 1 0).toNat<n):Rk (grR l):=by
 refine ⟨rfl,fun x s=> ?_,fun x y s h1 h2=> ?_⟩
 ·rcases iqv (l:=l) x with k | ⟨e,k⟩
  ·rw [nqj hb k];omega
  ·unfold grR
   rw [hqs (fq0 hb _) (kqt k s)]
   exact rank_snoc _ _
 ·rcases iqv (l:=l) x with k | ⟨e,k⟩
  ·have hc:(insert y (insert x s):FS)=insert x (insert y s):=FS.ext fun z=>by grind
   rw [hc,nqj hb k];exact h2
  ·rcases iqv (l:=l) y with k' | ⟨f,k'⟩
   ·rw [nqj hb k'];exact h1
   ·unfold grR at h1 h2 ⊢
    rw [hqs (fq0 hb _) (kqt k s),dqa] at h1
    rw [hqs (fq0 hb _) (kqt k' s),dqa] at h2
    have e1:=step_in h1
    have e2:=step_in h2
    have hm:∀ g,g∈grE l (insert y (insert x s))↔g∈(grE l s++[e])++[f]:=fun g=>by
     rw [kqt k',List.mem_append,List.mem_append,kqt k]
    rw [hqs (fq0 hb _) hm,dqa,dqa,e1,e2]
end
def CvF (adj:List (List Int)) (s L R:FS):Prop:=∀ x,x∈s->x∉L->∀ v,v∈adj.getD x.toNat []->0<=x->v∈R
theorem least {P:Nat->Prop} (h:∃ n,P n):∃ n,P n/\∀ m,P m->n<=m:=by
 obtain ⟨n,hn⟩:=h
 induction n using Nat.strongRecOn with
 | _ n ih=>
  by_cases k:∃ m,m<n/\P m
  ·obtain ⟨m,hm,hp⟩:=k;exact ih m hm hp
  ·exact ⟨n,hn,fun m hm=>by rcases Nat.lt_or_ge m n with g | g;exact absurd ⟨m,g,hm⟩ k;exact g⟩
theorem trR_all (adj:List (List Int)) (s:FS):∃ n,(∃ L R,CvF adj s L R/\L.card+R.card=n)/\∀ m,(∃ L R,CvF adj s L R/\L.card+R.card=m)->n<=m:=
 least ⟨s.card+0,s,∅,fun x hx hl=>absurd hx hl,by simp⟩
noncomputable def trR (adj:List (List Int)) (s:FS):Nat:=Classical.choose (trR_all adj s)
section
variable {adj:List (List Int)}
theorem lqf (s:FS):∃ L R,CvF adj s L R/\L.card+R.card=trR adj s:=(Classical.choose_spec (trR_all adj s)).1
theorem hqg {s L R:FS} (h:CvF adj s L R):trR adj s<=L.card+R.card:=(Classical.choose_spec (trR_all adj s)).2 _ ⟨L,R,h,rfl⟩
theorem tr_rk:Rk (trR adj):=by
 have mono:∀ x (s:FS),trR adj s<=trR adj (insert x s):=fun x s=>by
  obtain ⟨L,R,h,e⟩:=lqf (adj:=adj) (insert x s)
  rw [<-e];exact hqg fun y hy=>h y (by grind)
 refine ⟨?_,fun x s=>⟨mono x s,?_⟩,fun x y s h1 h2=> ?_⟩
 ·have:=hqg (adj:=adj) (s:= ∅) (L:= ∅) (R:= ∅) fun x hx=>by simp at hx
  simpa using this
 ·obtain ⟨L,R,h,e⟩:=lqf (adj:=adj) s
  have:=hqg (adj:=adj) (s:=insert x s) (L:=insert x L) (R:=R) fun y hy hl=>h y (by grind) (by grind)
  have:=(card_insert_le x L).2
  omega
 ·have h3:=mono y (insert x s)
  obtain ⟨L,R,h,e⟩:=lqf (adj:=adj) (insert x s)
  obtain ⟨L',R',h',e'⟩:=lqf (adj:=adj) (insert y s)
  have hx:x∉L\/x∈s:=by
   by_cases k:x∈s
   ·exact .inr k
   ·refine .inl fun hl=> ?_
    have:=hqg (adj:=adj) (s:=s) (L:=L.erase x) (R:=R) fun z hz hzl=>h z (by grind) (by grind)
    have:=card_erase hl
    omega
  have hy:y∉L'\/y∈s:=by
   by_cases k:y∈s
   ·exact .inr k
   ·refine .inl fun hl=> ?_
    have:=hqg (adj:=adj) (s:=s) (L:=L'.erase y) (R:=R') fun z hz hzl=>h' z (by grind) (by grind)
    have:=card_erase hl
    omega
  have c1:=card_union L L'
  have c2:=card_union R R'
  have l1:=hqg (adj:=adj) (s:=s) (L:=L∪L') (R:=R∩R') fun z hz hl v hv h0=>by
   have:=h z (by grind) (by grind) v hv h0
   have:=h' z (by grind) (by grind) v hv h0
   grind
  have l2:=hqg (adj:=adj) (s:=insert y (insert x s)) (L:=L∩L') (R:=R∪R') fun z hz hl v hv h0=>by
   have a1:=h z
   have a2:=h' z
   by_cases e1:z∈L
   ·have:z∉L':=by grind
    have:z∈(insert y s:FS):=by grind
    have:=a2 this (by assumption) v hv h0
    grind
   ·by_cases e2:z∈(insert x s:FS)
    ·have:=a1 e2 e1 v hv h0;grind
    ·have e3:z∈(insert y s:FS):=by grind
     have:z∉L':=by grind
     have:=a2 e3 this v hv h0
     grind
  omega
end
end Go.Am
namespace Go.Am
set_option linter.unusedVariables false
set_option linter.unusedSimpArgs false
open FS
structure Clo (C:FS->Int->Prop):Prop where
 refl:∀ A x,x∈A->C A x
 mono:∀ A B x,A⊆B->C A x->C B x
 trans:∀ A B x,(∀ y,y∈B->C A y)->C B x->C A x
 exch:∀ A x y,C (insert y A) x->¬C A x->C (insert x A) y
namespace Clo
variable {C:FS->Int->Prop}
def Indp (C:FS->Int->Prop) (A:FS):Prop:=∀ x,x∈A->¬C (A.erase x) x
theorem indp_insert (h:Clo C) {A:FS} {x:Int} (hA:Indp C A) (hx:¬C A x):Indp C (insert x A):=by
 have hn:x∉A:=fun k=>hx (h.refl _ _ k)
 intro y hy k
 by_cases e:y=x
 ·subst e
  exact hx (h.mono _ _ _ (fun z hz=>by grind) k)
 ·have hyA:y∈A:=by grind
  have e1:(insert x A:FS).erase y=insert x (A.erase y):=FS.ext fun z=>by grind
  rw [e1] at k
  have h2:=h.exch _ _ _ k (hA y hyA)
  rw [show (insert y (A.erase y):FS)=A from eqa hyA] at h2
  exact hx h2
theorem first (h:Clo C) {x:Int} {D B:FS} (h0:¬C D x) (hD:D⊆B) (h1:C B x):∃ E y,D⊆E/\E⊆B/\y∈B/\y∉E/\¬C E x/\C (insert y E) x:=by
 have key:∀ n (E:FS),(B \ E).card=n->D⊆E->E⊆B->¬C E x->∃ E y,D⊆E/\E⊆B/\y∈B/\y∉E/\¬C E x/\C (insert y E) x:=by
  intro n
  induction n with
  | zero=>
   intro E he hDE hEB hx
   have:E=B:=sub_anti hEB fun y hy=>Classical.byContradiction fun k=>by
    have h2:=fq7 he
    have:y∈B \ E:=by grind
    rw [h2] at this;simp at this
   subst this
   exact absurd h1 hx
  | succ n ih=>
   intro E he hDE hEB hx
   obtain ⟨y,hy⟩:=mq1 (s:=B \ E) (fun e=>by rw [e] at he;simp at he)
   rw [mem_sdiff] at hy
   by_cases k:C (insert y E) x
   ·exact ⟨E,y,hDE,hEB,hy.1,hy.2,hx,k⟩
   ·refine ih (insert y E) ?_ (fun z hz=>by have:=hDE z hz;grind) (fun z hz=>by have:=hEB z;grind) k
    have e1:B \ insert y E=(B \ E).erase y:=FS.ext fun z=>by grind
    rw [e1]
    have:=card_erase (x:=y) (s:=B \ E) (by grind)
    omega
 exact key _ D rfl (sub_refl D) hD h0
theorem steinitz (h:Clo C):∀ n (I B:FS),(I \ B).card=n->Indp C I->(∀ x,x∈I->C B x)->I.card<=B.card:=by
 intro n
 induction n with
 | zero=>
  intro I B he hI hs
  exact card_le fun y hy=>Classical.byContradiction fun k=>by
   have h2:=fq7 he
   have:y∈I \ B:=by grind
   rw [h2] at this;simp at this
 | succ n ih=>
  intro I B he hI hs
  obtain ⟨x,hx⟩:=mq1 (s:=I \ B) (fun e=>by rw [e] at he;simp at he)
  rw [mem_sdiff] at hx
  have h0:¬C (B∩I) x:=fun k=>hI x hx.1 (h.mono _ _ _ (fun y hy=>by grind) k)
  obtain ⟨E,y,hDE,hEB,hyB,hyE,hxE,hyx⟩:=h.first h0 (fun z hz=>by grind) (hs x hx.1)
  have hyI:y∉I:=fun k=>hyE (hDE y (by grind))
  have h1:=h.exch _ _ _ hyx hxE
  have hsp:∀ z,z∈B->C (insert x (B.erase y)) z:=by
   intro z hz
   by_cases e:z=y
   ·subst e
    exact h.mono _ _ _ (fun u hu=>by have:=hEB u;grind) h1
   ·exact h.refl _ _ (by grind)
  have hc:(insert x (B.erase y):FS).card=B.card:=by
   rw [card_insert (by grind)]
   have:=card_erase hyB
   omega
  have h2:=ih I (insert x (B.erase y)) (by
   have e1:I \ insert x (B.erase y)=(I \ B).erase x:=FS.ext fun z=>by grind
   rw [e1]
   have:=card_erase (x:=x) (s:=I \ B) (by grind)
   omega) hI (fun z hz=>h.trans _ _ _ hsp (hs z hz))
  omega
open Classical in
noncomputable def cg (C:FS->Int->Prop):List Int->FS->FS
 | [],s=>s
 | x::l,s=>cg C l (if C s x then s else insert x s)
theorem cg_spec (h:Clo C):∀ (l:List Int) (s:FS),Indp C s->Indp C (cg C l s)/\s⊆cg C l s/\(∀ x,x∈cg C l s->x∈s\/x∈l)/\∀ x∈l,C (cg C l s) x:=by
 intro l
 induction l with
 | nil=>intro s hs;exact ⟨hs,sub_refl _,fun x hx=> .inl hx,by simp⟩
 | cons y l ih=>
  intro s hs
  rw [cg]
  by_cases e:C s y
  ·rw [if_pos e]
   obtain ⟨a,b,c,d⟩:=ih s hs
   refine ⟨a,b,fun x hx=>by have:=c x hx;grind,fun x hx=> ?_⟩
   rcases List.mem_cons.1 hx with rfl | hx
   ·exact h.mono _ _ _ b e
   ·exact d x hx
  ·rw [if_neg e]
   obtain ⟨a,b,c,d⟩:=ih _ (h.indp_insert hs e)
   refine ⟨a,fun x hx=>b x (by grind),fun x hx=>by have:=c x hx;grind,fun x hx=> ?_⟩
   rcases List.mem_cons.1 hx with rfl | hx
   ·exact h.refl _ _ (b _ (by grind))
   ·exact d x hx
noncomputable def rk (C:FS->Int->Prop) (s:FS):Nat:=(cg C s.l ∅).card
theorem indp_empty:Indp C ∅ :=fun x hx=>by simp at hx
theorem rk_spec (h:Clo C) (s:FS):∃ b,Indp C b/\b⊆s/\b.card=rk C s/\∀ x,x∈s->C b x:=by
 obtain ⟨a,b,c,d⟩:=h.cg_spec s.l ∅ indp_empty
 exact ⟨_,a,fun x hx=>(c x hx).elim (fun k=>by simp at k) id,rfl,d⟩
theorem rk_eq (h:Clo C) {s b:FS} (h1:Indp C b) (h2:b⊆s) (h3:∀ x,x∈s->C b x):rk C s=b.card:=by
 obtain ⟨b',a1,a2,a3,a4⟩:=h.rk_spec s
 have e1:=h.steinitz _ b b' rfl h1 fun x hx=>a4 x (h2 x hx)
 have e2:=h.steinitz _ b' b rfl a1 fun x hx=>h3 x (a2 x hx)
 omega
theorem rk_in (h:Clo C) {s:FS} {x:Int} (hx:C s x):rk C (insert x s)=rk C s:=by
 obtain ⟨b,a1,a2,a3,a4⟩:=h.rk_spec s
 rw [h.rk_eq (s:=insert x s) a1 (fun z hz=>by have:=a2 z hz;grind) fun z hz=> ?_]
 ·exact a3
 ·rcases mem_insert.1 hz with rfl | hz
  ·exact h.trans _ _ _ a4 hx
  ·exact a4 z hz
theorem rk_out (h:Clo C) {s:FS} {x:Int} (hx:¬C s x):rk C (insert x s)=rk C s+1:=by
 obtain ⟨b,a1,a2,a3,a4⟩:=h.rk_spec s
 have hb:¬C b x:=fun k=>hx (h.mono _ _ _ a2 k)
 rw [h.rk_eq (s:=insert x s) (h.indp_insert a1 hb) (fun z hz=>by have:=a2 z;grind) fun z hz=> ?_]
 ·rw [card_insert fun k=>hb (h.refl _ _ k),a3]
 ·rcases mem_insert.1 hz with rfl | hz
  ·exact h.refl _ _ (by grind)
  ·exact h.mono _ _ _ (fun y hy=>by grind) (a4 z hz)
theorem rk_iff (h:Clo C) {s:FS} {x:Int}:rk C (insert x s)=rk C s↔C s x:=
 ⟨fun e=>Classical.byContradiction fun k=>by have:=h.rk_out k;omega,h.rk_in⟩
theorem rank (h:Clo C):Rk (rk C) where
 r0:=rfl
 one x s:=by
  by_cases k:C s x
  ·rw [h.rk_in k];omega
  ·rw [h.rk_out k];omega
 sub x y s h1 h2:=by
  rw [h.rk_iff] at *
  rw [h.rk_in (h.mono _ _ _ (fun z hz=>by grind) h2),h.rk_in h1]
end Clo
end Go.Am
namespace Go.Am
set_option linter.unusedVariables false
set_option linter.unusedSimpArgs false
section
variable {p:Int} {n:Nat}
inductive Spn (p:Int) (n:Nat) (S:(Nat->Int)->Prop):(Nat->Int)->Prop
 | zero {v:Nat->Int} (h:∀ i,i<n->p ∣ v i):Spn p n S v
 | add {v u w:Nat->Int} (c:Int) (hv:Spn p n S v) (hu:S u) (h:∀ i,i<n->p ∣ w i-(v i+c*u i)):Spn p n S w
namespace Spn
variable {S T:(Nat->Int)->Prop}
theorem dv {a b c:Int} (h1:p ∣ a) (h2:p ∣ b) (e:c=a+b):p ∣ c:=e▸Int.dvd_add h1 h2
theorem cong {v w:Nat->Int} (h:Spn p n S v) (hw:∀ i,i<n->p ∣ w i-v i):Spn p n S w:=by
 cases h with
 | zero h=>exact .zero fun i hi=>dv (h i hi) (hw i hi) (by omega)
 | add c hv hu h=>exact .add c hv hu fun i hi=>dv (h i hi) (hw i hi) (by omega)
theorem of {u:Nat->Int} (hu:S u):Spn p n S u:= .add 1 (.zero (v:=fun _=>0) fun i _=>Int.dvd_zero p) hu fun i _=>by simp
theorem plus {v w x:Nat->Int} (h:Spn p n S v) (k:Spn p n S w) (e:∀ i,i<n->p ∣ x i-(v i+w i)):Spn p n S x:=by
 induction k generalizing x with
 | zero h0=>exact h.cong fun i hi=>dv (e i hi) (h0 i hi) (by omega)
 | @add v' u w c hv hu h0 ih=>
  have h1:=ih (x:=fun i=>v i+v' i) fun i _=>by simp
  exact .add c h1 hu fun i hi=>dv (e i hi) (h0 i hi) (by grind)
theorem scale {v w:Nat->Int} (c:Int) (h:Spn p n S v) (e:∀ i,i<n->p ∣ w i-c*v i):Spn p n S w:=by
 induction h generalizing w with
 | zero h0=>exact .zero fun i hi=>dv (e i hi) (Int.dvd_mul_of_dvd_right (b:=c) (h0 i hi)) (by omega)
 | @add v' u v d hv hu h0 ih=>
  have h1:=ih (w:=fun i=>c*v' i) fun i _=>by simp
  exact .add (c*d) h1 hu fun i hi=>dv (e i hi) (Int.dvd_mul_of_dvd_right (b:=c) (h0 i hi)) (by grind)
theorem minus {v w x:Nat->Int} (h:Spn p n S v) (k:Spn p n S w) (e:∀ i,i<n->p ∣ x i-(v i-w i)):Spn p n S x:=
 h.plus (k.scale (w:=fun i=> - w i) (-1) fun i _=>⟨0,by grind⟩) fun i hi=>by have:=e i hi;rwa [show x i-(v i + - w i)=x i-(v i-w i) by omega]
theorem trans {v:Nat->Int} (hT:∀ u,T u->Spn p n S u) (h:Spn p n T v):Spn p n S v:=by
 induction h with
 | zero h0=>exact .zero h0
 | @add v' u v c hv hu h0 ih=>exact (ih.plus ((hT u hu).scale (w:=fun i=>c*u i) c fun i _=>by simp)) h0
theorem mono {v:Nat->Int} (hST:∀ u,S u->T u) (h:Spn p n S v):Spn p n T v:=h.trans fun u hu=> .of (hST u hu)
theorem split {v x:Nat->Int} (h:Spn p n (fun u=>u=x\/S u) v):∃ c:Int,Spn p n S (fun i=>v i-c*x i):=by
 induction h with
 | zero h0=>exact ⟨0,.zero fun i hi=>by simpa using h0 i hi⟩
 | @add v' u v d hv hu h0 ih=>
  obtain ⟨c,hc⟩:=ih
  rcases hu with rfl | hu
  ·exact ⟨c+d,hc.cong fun i hi=>by have:=h0 i hi;rwa [show v i-(c+d)*u i-(v' i-c*u i)=v i-(v' i+d*u i) by grind]⟩
  ·exact ⟨c,.add d hc hu fun i hi=>by have:=h0 i hi;rwa [show v i-c*x i-(v' i-c*x i+d*u i)=v i-(v' i+d*u i) by grind]⟩
theorem exch (hinv:∀ a:Int,¬p ∣ a->∃ b,p ∣ a*b-1) {v x:Nat->Int} (h:Spn p n (fun u=>u=x\/S u) v) (hn:¬Spn p n S v):Spn p n (fun u=>u=v\/S u) x:=by
 obtain ⟨c,hc⟩:=h.split
 by_cases k:p ∣ c
 ·exact absurd (hc.cong fun i hi=>by
   have:=Int.dvd_mul_of_dvd_left (c:=x i) k
   rwa [show v i-(v i-c*x i)=c*x i by omega]) hn
 ·obtain ⟨b,hb⟩:=hinv c k
  have h1:Spn p n (fun u=>u=v\/S u) (fun i=>v i-c*x i):=hc.mono fun u hu=> .inr hu
  have h2:Spn p n (fun u=>u=v\/S u) (fun i=>c*x i):=(of (S:=fun u=>u=v\/S u) (.inl rfl)).minus h1 fun i _=>⟨0,by grind⟩
  refine h2.scale b fun i hi=> ?_
  have:=Int.dvd_mul_of_dvd_left (c:= - x i) hb
  rwa [show x i-b*(c*x i)=(c*b-1) * - x i by grind]
end Spn
def vec (l:List Int):Nat->Int:=fun i=>l.getD i 0
def colF (cols:List (List Int)) (x:Int):Nat->Int:=vec (cols.getD x.toNat [])
def LinC (p:Int) (n:Nat) (cols:List (List Int)) (A:FS) (x:Int):Prop:=(0<=x/\x<cols.length->Spn p n (fun u=>∃ y,y∈A/\(0<=y/\y<cols.length)/\u=colF cols y) (colF cols x))
theorem linC (hinv:∀ a:Int,¬p ∣ a->∃ b,p ∣ a*b-1) (cols:List (List Int)):Clo (LinC p n cols) where
 refl A x hx:=fun hr=> .of ⟨x,hx,hr,rfl⟩
 mono A B x hs h:=fun hr=>(h hr).mono fun u ⟨y,hy,e⟩=>⟨y,hs y hy,e⟩
 trans A B x hB h:=fun hr=>(h hr).trans fun u ⟨y,hy,hr',e⟩=>e▸hB y hy hr'
 exch A x y h hn:=by
  intro hr
  by_cases hx:0<=x/\x<cols.length
  ·have h1:=(h hx).mono (T:=fun u=>u=colF cols y\/∃ z,z∈A/\(0<=z/\z<cols.length)/\u=colF cols z) fun u ⟨z,hz,hr',e⟩=>by
    rcases FS.mem_insert.1 hz with rfl | hz
    ·exact .inl e
    ·exact .inr ⟨z,hz,hr',e⟩
   have h2:=h1.exch hinv fun k=>hn fun _=>k
   refine h2.mono fun u hu=> ?_
   rcases hu with rfl | ⟨z,hz,hr',e⟩
   ·exact ⟨x,by grind,hx,rfl⟩
   ·exact ⟨z,by grind,hr',e⟩
  ·exact absurd (fun k=>absurd k hx) hn
end
end Go.Am
