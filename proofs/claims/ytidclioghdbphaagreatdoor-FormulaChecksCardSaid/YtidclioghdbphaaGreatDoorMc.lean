/- Texts of the proof, one behind the other. -/
import Derived.Test.YtidclioghdbphaaGreatDoorMb
import Derived.Lib.ItoaNum
import Derived.Lib.ItoaLen
import Derived.Lib.ParseIntB
import Derived.Lib.ParseIntBCases
import Derived.Lib.IndexMore
set_option linter.all false
set_option maxRecDepth 100000
namespace Go.Proofs.YtidclioghdbphaaGreatDoor
open Go.RowKit Go.Par Go.Sx Tryz
theorem Fx.agg70:aggN prg 70=some (some 3):=by kernel_rfl
theorem Fx.call124:callN prg 124=true:=by kernel_rfl
theorem Fx.call125:callN prg 125=true:=by kernel_rfl
theorem Fx.call126:callN prg 126=true:=by kernel_rfl
theorem Fx.call127:callN prg 127=true:=by kernel_rfl
theorem Fx.size70:sizeN prg 70=some 3:=by kernel_rfl
theorem Fx.zero70:zeroN prg 70=some
 [Go.Value.int Go.IntKind.i64 (Int.ofNat 0),Go.Value.string { data:={ toList:=[] } },
  Go.Value.int Go.IntKind.i64 (Int.ofNat 0)]:=by kernel_rfl
theorem Fx.bld70_0_1_2 (x0:Int) (x1:ByteArray) (x2:Int):buildN prg 70 [(0,.int .i64 x0),(1,.string x1),(2,.int .i64 x2)]=some [.int .i64 x0,.string x1,.int .i64 x2]:=by kernel_rfl
theorem Fx.call32:callN prg 32=true:=by kernel_rfl
theorem Fx.call67:callN prg 67=true:=by kernel_rfl
theorem Fx.call68:callN prg 68=true:=by kernel_rfl
theorem Fx.field70_0:fieldN prg 70 0=some 0:=by kernel_rfl
theorem Fx.field70_1:fieldN prg 70 1=some 1:=by kernel_rfl
theorem Fx.row67:rowN prg 67=some (70,3,32):=by kernel_rfl
theorem Fx.sl67:slN prg 67=some 3:=by kernel_rfl
theorem Fx.bsl67_1 (x00 x01 x02:Value):bslN prg 67 1 [(0,.agg [x00,x01,x02].toArray)]=some (70,[x00,x01,x02]):=by kernel_rfl
theorem Fx.call83:callN prg 83=true:=by kernel_rfl
theorem Fx.row71:rowN prg 71=some (9,1,16):=by kernel_rfl
theorem Fx.bsl71_1 (x0:ByteArray):bslN prg 71 1 [(0,.string x0)]=some (9,[.string x0]):=by kernel_rfl
theorem Fx.bld83_0_3 (x0:Int) (x3p:Option Addr) (x3n x3c:Nat):buildN prg 83 [(0,.int .i64 x0),(3,.slice x3p x3n x3c)]=some [.int .i64 x0,.string ⟨#[]⟩,.int .i64 0,.slice x3p x3n x3c]:=by kernel_rfl
theorem Fx.bsl24_2 (x00 x01 x02 x03 x10 x11 x12 x13:Value):bslN prg 24 2 [(0,.agg [x00,x01,x02,x03].toArray),(1,.agg [x10,x11,x12,x13].toArray)]=some (83,[x00,x01,x02,x03,x10,x11,x12,x13]):=by kernel_rfl
theorem Fx.size3:sizeN prg 3=some 1:=by kernel_rfl
theorem Fx.agg74:aggN prg 74=some none:=by kernel_rfl
theorem Fx.field76_0:fieldN prg 76 0=some 0:=by kernel_rfl
theorem Fx.field76_1:fieldN prg 76 1=some 1:=by kernel_rfl
theorem Fx.field76_2:fieldN prg 76 2=some 2:=by kernel_rfl
theorem Fx.agg29:aggN prg 29=some none:=by kernel_rfl
theorem Fx.agg99:aggN prg 99=some none:=by kernel_rfl
theorem Fx.agg106:aggN prg 106=some none:=by kernel_rfl
theorem Fx.agg108:aggN prg 108=some (some 3):=by kernel_rfl
theorem Fx.call98:callN prg 98=true:=by kernel_rfl
theorem Fx.field102_0:fieldN prg 102 0=some 0:=by kernel_rfl
theorem Fx.field102_1:fieldN prg 102 1=some 1:=by kernel_rfl
theorem Fx.field102_7:fieldN prg 102 7=some 7:=by kernel_rfl
theorem Fx.field102_8:fieldN prg 102 8=some 8:=by kernel_rfl
theorem Fx.field108_0:fieldN prg 108 0=some 0:=by kernel_rfl
theorem Fx.field108_1:fieldN prg 108 1=some 1:=by kernel_rfl
theorem Fx.size29:sizeN prg 29=some 1:=by kernel_rfl
theorem Fx.size108:sizeN prg 108=some 3:=by kernel_rfl
theorem Fx.sl99:slN prg 99=some 3:=by kernel_rfl
theorem Fx.zero108:zeroN prg 108=some
 [Go.Value.int Go.IntKind.u8 (Int.ofNat 0),Go.Value.string { data:={ toList:=[] } },
  Go.Value.int Go.IntKind.i64 (Int.ofNat 0)]:=by kernel_rfl
theorem Fx.call100:callN prg 100=true:=by kernel_rfl
theorem Fx.call104:callN prg 104=true:=by kernel_rfl
theorem Fx.call107:callN prg 107=true:=by kernel_rfl
theorem Fx.agg35:aggN prg 35=some (some 7):=by kernel_rfl
theorem Fx.call110:callN prg 110=true:=by kernel_rfl
theorem Fx.call113:callN prg 113=true:=by kernel_rfl
theorem Fx.call114:callN prg 114=true:=by kernel_rfl
theorem Fx.call158:callN prg 158=true:=by kernel_rfl
theorem Fx.call180:callN prg 180=true:=by kernel_rfl
theorem Fx.field35_2:fieldN prg 35 2=some 2:=by kernel_rfl
theorem Fx.field35_3:fieldN prg 35 3=some 3:=by kernel_rfl
theorem Fx.field35_4:fieldN prg 35 4=some 4:=by kernel_rfl
theorem Fx.int2:intN prg 2=some Go.IntKind.i64:=by kernel_rfl
theorem Fx.size35:sizeN prg 35=some 7:=by kernel_rfl
theorem Fx.zero35:zeroN prg 35=some
 [Go.Value.int Go.IntKind.u8 (Int.ofNat 0),Go.Value.string { data:={ toList:=[] } },
  Go.Value.string { data:={ toList:=[] } },Go.Value.int Go.IntKind.i64 (Int.ofNat 0),
  Go.Value.int Go.IntKind.i64 (Int.ofNat 0),Go.Value.slice none 0 0,Go.Value.slice none 0 0]:=by kernel_rfl
theorem Fx.bld35_0_1 (x0:Int) (x1:ByteArray):buildN prg 35 [(0,.int .u8 x0),(1,.string x1)]=some [.int .u8 x0,.string x1,.string ⟨#[]⟩,.int .i64 0,.int .i64 0,.slice none 0 0,.slice none 0 0]:=by kernel_rfl
theorem Fx.bld35_0_4 (x0 x4:Int):buildN prg 35 [(0,.int .u8 x0),(4,.int .i64 x4)]=some [.int .u8 x0,.string ⟨#[]⟩,.string ⟨#[]⟩,.int .i64 0,.int .i64 x4,.slice none 0 0,.slice none 0 0]:=by kernel_rfl
theorem Fx.agg97:aggN prg 97=some (some 11):=by kernel_rfl
theorem Fx.agg98:aggN prg 98=some none:=by kernel_rfl
theorem Fx.agg100:aggN prg 100=some none:=by kernel_rfl
theorem Fx.agg179:aggN prg 179=some (some 13):=by kernel_rfl
theorem Fx.call105:callN prg 105=true:=by kernel_rfl
theorem Fx.field97_1:fieldN prg 97 1=some 1:=by kernel_rfl
theorem Fx.field97_2:fieldN prg 97 2=some 2:=by kernel_rfl
theorem Fx.field102_2:fieldN prg 102 2=some 2:=by kernel_rfl
theorem Fx.field102_3:fieldN prg 102 3=some 3:=by kernel_rfl
theorem Fx.field102_4:fieldN prg 102 4=some 4:=by kernel_rfl
theorem Fx.row98:rowN prg 98=some (97,11,128):=by kernel_rfl
theorem Fx.row100:rowN prg 100=some (179,13,168):=by kernel_rfl
theorem Fx.size4:sizeN prg 4=some 1:=by kernel_rfl
theorem Fx.size98:sizeN prg 98=some 1:=by kernel_rfl
theorem Fx.size100:sizeN prg 100=some 1:=by kernel_rfl
theorem Fx.size179:sizeN prg 179=some 13:=by kernel_rfl
theorem Fx.sl98:slN prg 98=some 11:=by kernel_rfl
theorem Fx.sl100:slN prg 100=some 13:=by kernel_rfl
theorem Fx.zero179:zeroN prg 179=some
 [Go.Value.bool false,Go.Value.bool false,Go.Value.int Go.IntKind.u8 (Int.ofNat 0),
  Go.Value.string { data:={ toList:=[] } },Go.Value.int Go.IntKind.i64 (Int.ofNat 0),
  Go.Value.slice none 0 0,Go.Value.int Go.IntKind.u8 (Int.ofNat 0),
  Go.Value.string { data:={ toList:=[] } },Go.Value.string { data:={ toList:=[] } },
  Go.Value.int Go.IntKind.i64 (Int.ofNat 0),Go.Value.int Go.IntKind.i64 (Int.ofNat 0),
  Go.Value.slice none 0 0,Go.Value.slice none 0 0]:=by kernel_rfl
theorem Fx.bsl100_1 (x00 x01 x02 x03 x04 x05 x06 x07 x08 x09 x010 x011 x012:Value):bslN prg 100 1 [(0,.agg [x00,x01,x02,x03,x04,x05,x06,x07,x08,x09,x010,x011,x012].toArray)]=some (179,[x00,x01,x02,x03,x04,x05,x06,x07,x08,x09,x010,x011,x012]):=by kernel_rfl
theorem Fx.bsl98_1 (x00 x01 x02 x03 x04 x05 x06 x07 x08 x09 x010:Value):bslN prg 98 1 [(0,.agg [x00,x01,x02,x03,x04,x05,x06,x07,x08,x09,x010].toArray)]=some (97,[x00,x01,x02,x03,x04,x05,x06,x07,x08,x09,x010]):=by kernel_rfl
theorem Fx.call20:callN prg 20=true:=by kernel_rfl
theorem Fx.call49:callN prg 49=true:=by kernel_rfl
theorem Fx.call94:callN prg 94=true:=by kernel_rfl
theorem Fx.call108:callN prg 108=true:=by kernel_rfl
theorem Fx.call116:callN prg 116=true:=by kernel_rfl
theorem Fx.call145:callN prg 145=true:=by kernel_rfl
theorem Fx.field102_6:fieldN prg 102 6=some 6:=by kernel_rfl
theorem Fx.field179_0:fieldN prg 179 0=some 0:=by kernel_rfl
theorem Fx.field179_2:fieldN prg 179 2=some 2:=by kernel_rfl
theorem Fx.field179_3:fieldN prg 179 3=some 6:=by kernel_rfl
theorem Fx.bld35_0_1_2 (x0:Int) (x1 x2:ByteArray):buildN prg 35 [(0,.int .u8 x0),(1,.string x1),(2,.string x2)]=some [.int .u8 x0,.string x1,.string x2,.int .i64 0,.int .i64 0,.slice none 0 0,.slice none 0 0]:=by kernel_rfl
theorem Fx.agg95:aggN prg 95=some none:=by kernel_rfl
theorem Fx.call57:callN prg 57=true:=by kernel_rfl
theorem Fx.call155:callN prg 155=true:=by kernel_rfl
theorem Fx.field35_6:fieldN prg 35 6=some 6:=by kernel_rfl
theorem Fx.field97_0:fieldN prg 97 0=some 0:=by kernel_rfl
theorem Fx.field97_3:fieldN prg 97 3=some 3:=by kernel_rfl
theorem Fx.field97_4:fieldN prg 97 4=some 4:=by kernel_rfl
theorem Fx.size33:sizeN prg 33=some 1:=by kernel_rfl
theorem Fx.size97:sizeN prg 97=some 11:=by kernel_rfl
theorem Fx.zero97:zeroN prg 97=some
 [Go.Value.int Go.IntKind.u8 (Int.ofNat 0),Go.Value.int Go.IntKind.i64 (Int.ofNat 0),Go.Value.bool false,
  Go.Value.int Go.IntKind.u8 (Int.ofNat 0),Go.Value.int Go.IntKind.u8 (Int.ofNat 0),
  Go.Value.string { data:={ toList:=[] } },Go.Value.string { data:={ toList:=[] } },
  Go.Value.int Go.IntKind.i64 (Int.ofNat 0),Go.Value.int Go.IntKind.i64 (Int.ofNat 0),
  Go.Value.slice none 0 0,Go.Value.slice none 0 0]:=by kernel_rfl
theorem Fx.bld179_0_2 (x0:Bool) (x20 x21 x22 x23:Value):buildN prg 179 [(0,.bool x0),(2,.agg [x20,x21,x22,x23].toArray)]=some [.bool x0,.bool false,x20,x21,x22,x23,.int .u8 0,.string ⟨#[]⟩,.string ⟨#[]⟩,.int .i64 0,.int .i64 0,.slice none 0 0,.slice none 0 0]:=by kernel_rfl
theorem Fx.bld179_3 (x30 x31 x32 x33 x34 x35 x36:Value):buildN prg 179 [(3,.agg [x30,x31,x32,x33,x34,x35,x36].toArray)]=some [.bool false,.bool false,.int .u8 0,.string ⟨#[]⟩,.int .i64 0,.slice none 0 0,x30,x31,x32,x33,x34,x35,x36]:=by kernel_rfl
theorem Fx.bld35_0_5 (x0:Int) (x5p:Option Addr) (x5n x5c:Nat):buildN prg 35 [(0,.int .u8 x0),(5,.slice x5p x5n x5c)]=some [.int .u8 x0,.string ⟨#[]⟩,.string ⟨#[]⟩,.int .i64 0,.int .i64 0,.slice x5p x5n x5c,.slice none 0 0]:=by kernel_rfl
theorem Fx.bld76_0_3 (x0:Int) (x3p:Option Addr) (x3n x3c:Nat):buildN prg 76 [(0,.int .u8 x0),(3,.slice x3p x3n x3c)]=some [.int .u8 x0,.string ⟨#[]⟩,.int .i64 0,.slice x3p x3n x3c]:=by kernel_rfl
theorem Fx.bsl32_2 (x00 x01 x02 x03 x10 x11 x12 x13:Value):bslN prg 32 2 [(0,.agg [x00,x01,x02,x03].toArray),(1,.agg [x10,x11,x12,x13].toArray)]=some (76,[x00,x01,x02,x03,x10,x11,x12,x13]):=by kernel_rfl
theorem Fx.bsl33_1 (x00 x01 x02 x03 x04 x05 x06:Value):bslN prg 33 1 [(0,.agg [x00,x01,x02,x03,x04,x05,x06].toArray)]=some (35,[x00,x01,x02,x03,x04,x05,x06]):=by kernel_rfl
theorem Fx.bsl33_2 (x00 x01 x02 x03 x04 x05 x06 x10 x11 x12 x13 x14 x15 x16:Value):bslN prg 33 2 [(0,.agg [x00,x01,x02,x03,x04,x05,x06].toArray),(1,.agg [x10,x11,x12,x13,x14,x15,x16].toArray)]=some (35,[x00,x01,x02,x03,x04,x05,x06,x10,x11,x12,x13,x14,x15,x16]):=by kernel_rfl
theorem Fx.call109:callN prg 109=true:=by kernel_rfl
theorem Fx.call112:callN prg 112=true:=by kernel_rfl
theorem Fx.call154:callN prg 154=true:=by kernel_rfl
theorem Fx.call157:callN prg 157=true:=by kernel_rfl
theorem Fx.bld35_0 (x0:Int):buildN prg 35 [(0,.int .u8 x0)]=some [.int .u8 x0,.string ⟨#[]⟩,.string ⟨#[]⟩,.int .i64 0,.int .i64 0,.slice none 0 0,.slice none 0 0]:=by kernel_rfl
theorem Fx.bld35_1 (x1:ByteArray):buildN prg 35 [(1,.string x1)]=some [.int .u8 0,.string x1,.string ⟨#[]⟩,.int .i64 0,.int .i64 0,.slice none 0 0,.slice none 0 0]:=by kernel_rfl
theorem Fx.bld76_0_1 (x0:Int) (x1:ByteArray):buildN prg 76 [(0,.int .u8 x0),(1,.string x1)]=some [.int .u8 x0,.string x1,.int .i64 0,.slice none 0 0]:=by kernel_rfl
theorem Fx.bld97_0_1_4 (x0 x1:Int) (x40 x41 x42 x43 x44 x45 x46:Value):buildN prg 97 [(0,.int .u8 x0),(1,.int .i64 x1),(4,.agg [x40,x41,x42,x43,x44,x45,x46].toArray)]=some [.int .u8 x0,.int .i64 x1,.bool false,.int .u8 0,x40,x41,x42,x43,x44,x45,x46]:=by kernel_rfl
theorem Fx.bld97_0_2_3_4 (x0:Int) (x2:Bool) (x3:Int) (x40 x41 x42 x43 x44 x45 x46:Value):buildN prg 97 [(0,.int .u8 x0),(2,.bool x2),(3,.int .u8 x3),(4,.agg [x40,x41,x42,x43,x44,x45,x46].toArray)]=some [.int .u8 x0,.int .i64 0,.bool x2,.int .u8 x3,x40,x41,x42,x43,x44,x45,x46]:=by kernel_rfl
theorem Fx.bld97_0_2_4 (x0:Int) (x2:Bool) (x40 x41 x42 x43 x44 x45 x46:Value):buildN prg 97 [(0,.int .u8 x0),(2,.bool x2),(4,.agg [x40,x41,x42,x43,x44,x45,x46].toArray)]=some [.int .u8 x0,.int .i64 0,.bool x2,.int .u8 0,x40,x41,x42,x43,x44,x45,x46]:=by kernel_rfl
theorem Fx.bld97_0_4 (x0:Int) (x40 x41 x42 x43 x44 x45 x46:Value):buildN prg 97 [(0,.int .u8 x0),(4,.agg [x40,x41,x42,x43,x44,x45,x46].toArray)]=some [.int .u8 x0,.int .i64 0,.bool false,.int .u8 0,x40,x41,x42,x43,x44,x45,x46]:=by kernel_rfl
theorem Fx.call106:callN prg 106=true:=by kernel_rfl
theorem Fx.call111:callN prg 111=true:=by kernel_rfl
theorem Fx.call115:callN prg 115=true:=by kernel_rfl
theorem Fx.field35_1:fieldN prg 35 1=some 1:=by kernel_rfl
theorem Fx.bld179_0_1 (x0 x1:Bool):buildN prg 179 [(0,.bool x0),(1,.bool x1)]=some [.bool x0,.bool x1,.int .u8 0,.string ⟨#[]⟩,.int .i64 0,.slice none 0 0,.int .u8 0,.string ⟨#[]⟩,.string ⟨#[]⟩,.int .i64 0,.int .i64 0,.slice none 0 0,.slice none 0 0]:=by kernel_rfl
theorem Fx.bld76_0 (x0:Int):buildN prg 76 [(0,.int .u8 x0)]=some [.int .u8 x0,.string ⟨#[]⟩,.int .i64 0,.slice none 0 0]:=by kernel_rfl
theorem Fx.bld76_0_2 (x0 x2:Int):buildN prg 76 [(0,.int .u8 x0),(2,.int .i64 x2)]=some [.int .u8 x0,.string ⟨#[]⟩,.int .i64 x2,.slice none 0 0]:=by kernel_rfl
theorem Fx.bld97_0 (x0:Int):buildN prg 97 [(0,.int .u8 x0)]=some [.int .u8 x0,.int .i64 0,.bool false,.int .u8 0,.int .u8 0,.string ⟨#[]⟩,.string ⟨#[]⟩,.int .i64 0,.int .i64 0,.slice none 0 0,.slice none 0 0]:=by kernel_rfl
theorem Fx.bld97_0_1 (x0 x1:Int):buildN prg 97 [(0,.int .u8 x0),(1,.int .i64 x1)]=some [.int .u8 x0,.int .i64 x1,.bool false,.int .u8 0,.int .u8 0,.string ⟨#[]⟩,.string ⟨#[]⟩,.int .i64 0,.int .i64 0,.slice none 0 0,.slice none 0 0]:=by kernel_rfl
theorem Fx.agg157:aggN prg 157=some (some 7):=by kernel_rfl
theorem Fx.arr200:arrN prg 200=some (19,7):=by kernel_rfl
theorem Fx.call102:callN prg 102=true:=by kernel_rfl
theorem Fx.field179_1:fieldN prg 179 1=some 1:=by kernel_rfl
theorem Fx.size95:sizeN prg 95=some 1:=by kernel_rfl
theorem Fx.size157:sizeN prg 157=some 7:=by kernel_rfl
theorem Fx.zero157:zeroN prg 157=some
 [Go.Value.int Go.IntKind.u8 (Int.ofNat 0),Go.Value.bool false,Go.Value.bool false,
  Go.Value.bool false,Go.Value.bool false,Go.Value.int Go.IntKind.u8 (Int.ofNat 0),
  Go.Value.int Go.IntKind.u8 (Int.ofNat 0)]:=by kernel_rfl
theorem Fx.bld157  : buildN prg 157 []=some [.int .u8 0,.bool false,.bool false,.bool false,.bool false,.int .u8 0,.int .u8 0]:=by kernel_rfl
theorem Fx.bld97_0_1_3 (x0 x1 x3:Int):buildN prg 97 [(0,.int .u8 x0),(1,.int .i64 x1),(3,.int .u8 x3)]=some [.int .u8 x0,.int .i64 x1,.bool false,.int .u8 x3,.int .u8 0,.string ⟨#[]⟩,.string ⟨#[]⟩,.int .i64 0,.int .i64 0,.slice none 0 0,.slice none 0 0]:=by kernel_rfl
theorem Fx.agg31:aggN prg 31=some none:=by kernel_rfl
theorem Fx.call74:callN prg 74=true:=by kernel_rfl
theorem Fx.field35_0:fieldN prg 35 0=some 0:=by kernel_rfl
theorem Fx.call156:callN prg 156=true:=by kernel_rfl
theorem Fx.field35_5:fieldN prg 35 5=some 5:=by kernel_rfl
theorem Fx.field102_5:fieldN prg 102 5=some 5:=by kernel_rfl
theorem Fx.bld179_1_3 (x1:Bool) (x30 x31 x32 x33 x34 x35 x36:Value):buildN prg 179 [(1,.bool x1),(3,.agg [x30,x31,x32,x33,x34,x35,x36].toArray)]=some [.bool false,.bool x1,.int .u8 0,.string ⟨#[]⟩,.int .i64 0,.slice none 0 0,x30,x31,x32,x33,x34,x35,x36]:=by kernel_rfl
theorem Fx.bld76_0_1_3 (x0:Int) (x1:ByteArray) (x3p:Option Addr) (x3n x3c:Nat):buildN prg 76 [(0,.int .u8 x0),(1,.string x1),(3,.slice x3p x3n x3c)]=some [.int .u8 x0,.string x1,.int .i64 0,.slice x3p x3n x3c]:=by kernel_rfl
theorem Fx.agg165:aggN prg 165=some (some 22):=by kernel_rfl
theorem Fx.are165:arrE prg 165=true:=by kernel_rfl
theorem Fx.arr165:arrN prg 165=some (22,1):=by kernel_rfl
theorem Fx.call99:callN prg 99=true:=by kernel_rfl
theorem Fx.call101:callN prg 101=true:=by kernel_rfl
theorem Fx.call103:callN prg 103=true:=by kernel_rfl
theorem Fx.call131:callN prg 131=true:=by kernel_rfl
theorem Fx.call78:callN prg 78=true:=by kernel_rfl
theorem Fx.call79:callN prg 79=true:=by kernel_rfl
theorem Fx.call132:callN prg 132=true:=by kernel_rfl
theorem Fx.agg33:aggN prg 33=some none:=by kernel_rfl
theorem Fx.call35:callN prg 35=true:=by kernel_rfl
theorem Fx.call71:callN prg 71=true:=by kernel_rfl
theorem Fx.call72:callN prg 72=true:=by kernel_rfl
theorem Fx.call75:callN prg 75=true:=by kernel_rfl
theorem Fx.call76:callN prg 76=true:=by kernel_rfl
theorem Fx.field157_1:fieldN prg 157 1=some 1:=by kernel_rfl
theorem Fx.field157_2:fieldN prg 157 2=some 2:=by kernel_rfl
theorem Fx.sl33:slN prg 33=some 7:=by kernel_rfl
theorem Fx.zero3:zeroN prg 3=some [Go.Value.int Go.IntKind.i64 (Int.ofNat 0)]:=by kernel_rfl
theorem Fx.call77:callN prg 77=true:=by kernel_rfl
theorem Fx.call80:callN prg 80=true:=by kernel_rfl
theorem Fx.field157_0:fieldN prg 157 0=some 0:=by kernel_rfl
theorem Fx.field157_3:fieldN prg 157 3=some 3:=by kernel_rfl
theorem Fx.field157_4:fieldN prg 157 4=some 4:=by kernel_rfl
theorem Fx.field157_5:fieldN prg 157 5=some 5:=by kernel_rfl
theorem Fx.field157_6:fieldN prg 157 6=some 6:=by kernel_rfl
theorem Fx.row33:rowN prg 33=some (35,7,104):=by kernel_rfl
theorem Fx.call34:callN prg 34=true:=by kernel_rfl
theorem Fx.call36:callN prg 36=true:=by kernel_rfl
theorem Fx.call37:callN prg 37=true:=by kernel_rfl
theorem Fx.call38:callN prg 38=true:=by kernel_rfl
theorem Fx.call96:callN prg 96=true:=by kernel_rfl
theorem Fx.call147:callN prg 147=true:=by kernel_rfl
theorem Fx.call149:callN prg 149=true:=by kernel_rfl
theorem Fx.bld108_0_1_2 (x0:Int) (x1:ByteArray) (x2:Int):buildN prg 108 [(0,.int .u8 x0),(1,.string x1),(2,.int .i64 x2)]=some [.int .u8 x0,.string x1,.int .i64 x2]:=by kernel_rfl
theorem Fx.agg94:aggN prg 94=some none:=by kernel_rfl
theorem Fx.call15:callN prg 15=true:=by kernel_rfl
theorem Fx.call54:callN prg 54=true:=by kernel_rfl
theorem Fx.call55:callN prg 55=true:=by kernel_rfl
theorem Fx.call56:callN prg 56=true:=by kernel_rfl
theorem Fx.call95:callN prg 95=true:=by kernel_rfl
theorem Fx.row99:rowN prg 99=some (108,3,32):=by kernel_rfl
theorem Fx.size94:sizeN prg 94=some 1:=by kernel_rfl
theorem Fx.size99:sizeN prg 99=some 1:=by kernel_rfl
theorem Fx.zero94:zeroN prg 94=some [Go.Value.pointer none]:=by kernel_rfl
theorem Fx.bld102_2 (x2p:Option Addr) (x2n x2c:Nat):buildN prg 102 [(2,.slice x2p x2n x2c)]=some [.slice none 0 0,.int .i64 0,.slice x2p x2n x2c,.slice none 0 0,.bool false,.bool false,.bool false,.int .i64 0,.int .i64 0]:=by kernel_rfl
theorem Fx.bld108_2 (x2:Int):buildN prg 108 [(2,.int .i64 x2)]=some [.int .u8 0,.string ⟨#[]⟩,.int .i64 x2]:=by kernel_rfl
theorem Fx.bld35  : buildN prg 35 []=some [.int .u8 0,.string ⟨#[]⟩,.string ⟨#[]⟩,.int .i64 0,.int .i64 0,.slice none 0 0,.slice none 0 0]:=by kernel_rfl
theorem Fx.bsl99_1 (x00 x01 x02:Value):bslN prg 99 1 [(0,.agg [x00,x01,x02].toArray)]=some (108,[x00,x01,x02]):=by kernel_rfl
theorem Fx.call89:callN prg 89=true:=by kernel_rfl
theorem Fx.call138:callN prg 138=true:=by kernel_rfl
theorem Fx.call139:callN prg 139=true:=by kernel_rfl
theorem Fx.call140:callN prg 140=true:=by kernel_rfl
theorem Fx.call48:callN prg 48=true:=by kernel_rfl
theorem Fx.call144:callN prg 144=true:=by kernel_rfl
theorem Fx.arr163:arrN prg 163=some (19,1):=by kernel_rfl
theorem Fx.call90:callN prg 90=true:=by kernel_rfl
theorem Fx.call91:callN prg 91=true:=by kernel_rfl
theorem Fx.call92:callN prg 92=true:=by kernel_rfl
theorem Fx.call93:callN prg 93=true:=by kernel_rfl
theorem Fx.call19:callN prg 19=true:=by kernel_rfl
theorem Fx.call26:callN prg 26=true:=by kernel_rfl
def n13 (e:Ex):Bool:=decide (e.nm.length<=13)
theorem buildC_any:∀ (f d:Nat),d+f=31->∀ (H:Hp) (l:List Nd) (v:Value) (w:World),Rep H (.seq 5 (l.map dNd)) [v]->Agr H w ->
 Calls prg 169 #[v,iN d] w λr w'=>∃ (y:List Value × Value) (H':Hp),(∃ (e:Ex) (rest:List Nd),Rep H' (dEx .i64 e) y.1/\goodE d e/\Ex.all n13 e=true/\e.count+3 * rest.length<=3 * l.length+1/\Rep H' (.seq 5 (rest.map dNd)) [y.2])/\r=.returned (.tuple #[.agg y.1.toArray,y.2])/\Grow H w H' w':=by
 intro f;induction f using Nat.strongRecOn with
 | _ f ih =>
  intro d hd H l v w h hA;obtain ⟨p,c,e,_⟩:=h.sl;simp only [Al_List_cons_injEq,Al_and_true] at e;subst e;obtain ⟨n,hn⟩:∃ n,n=(l.map dNd).length:=⟨_,Z⟩;rw [<-hn] at h|-;have hnl:n=l.length:=by simpa using hn
  have hcap:=h.cap;refine Sx.enter (H:=H) func169 rfl ntmps169 rfl hA ?_;refine .sr<|.al Fx.zero83 Z λb4=>.aq Z<|.sq<|.sm Z<|.yw (.lenSl Fx.sl149 Z)<|.yw (.eql Z Z)<|.mv Z<|.e2 (λh15=>?_) (λh15=>?_)
  ·refine .gG<|.gG<|.yw (.pickT Z Z)<|.nt<|.cT Z<|.sr<|.yw (.build Z (Fx.bld83_0 _))<|.mv Z<|.sW .head Z Z Fx.size83 (by simp [Value.oneCell',strV,cNd]) Z<|.az Z<|.tR<|?_
   exact y7 Z (.cons (.cell Z Fx.agg83 Hm rfl) (.cons (.tmp Z) .nil)) rfl λW s=>⟨(_,_),H,⟨.mk 1 [] 0 [],l,ex_shut (by decide) (Rep.empty (by decide)),goodE_leaf (by omega),Z,(by rw [ex_count,Ex.counts];omega),h⟩,Z,.pure hA s.ext⟩
  refine .gy (.move Z)<|.gy (.gtr Z Z)<|.yw (.pickF Z Z)<|.nt<|.ce Z (λh18=>?_) (λh18=>?_)
  ·refine .sr<|.yw (.build Z (Fx.bld83_0 _))<|.mv Z<|.sW .head Z Z Fx.size83 (by simp [Value.oneCell',strV,cNd]) Z<|.az Z<|.tR<|?_
   exact y7 Z (.cons (.cell Z Fx.agg83 Hm rfl) (.cons (.tmp Z) .nil)) rfl λW s=>⟨(_,_),H,⟨.mk 1 [] 0 [],l,ex_shut (by decide) (Rep.empty (by decide)),goodE_leaf (by omega),Z,(by rw [ex_count,Ex.counts];omega),h⟩,Z,.pure hA s.ext⟩
  have hn0:0<n:=by omega
  obtain ⟨bE,oE,cE,hpE,rE,lE,mE⟩:=h.elem (map_at (f:=dNd) (show 0<l.length by omega));subst hpE;generalize hx:l[0]=x at rE;obtain rfl:=nd_open rE;obtain ⟨op,hop⟩:∃ op:UInt8,op.toNat=x.op.toNat % 24:=⟨UInt8.ofNat (x.op.toNat % 24),by simp [Al_UInt8_toNat_ofNat'];omega⟩;obtain ⟨m0,hm0,hm2⟩:∃ m0:Nat,max (arR op.toNat) 0=(m0:Int)/\m0<=2:=⟨(max (arR op.toNat) 0).toNat,by have:=arR_bnd op.toNat;omega,by have:=arR_bnd op.toNat;omega⟩;refine .sk<|.tN<|.sm Z<|.yw (.indexSl Fx.sl149 Z Z (i:=0) Z (by omega) (q:=oE+0 * 5) (by omega))<|.yw (.loadMW Z Fx.agg240 mE Z)<|.al Fx.zero240 Z λb6=>.sW .head Z Z Fx.size240 (by simp [Value.oneCell',strV,cNd]) Z<|.ns<|.mv Z<|.yw (.cutLo Fx.sl149 Z Z (lo:=1) Z (by omega) h.len.2.1)<|.a Z Z<|.ns<|.fA Z Fx.field240_0<|.lD Z Fx.agg5 Hm Z<|.yw (.rem Z Z (by decide) (c:=((x.op.toNat % 24:Nat):Int)) (by rw [Al_Int_tmod_eq_emod_of_nonneg (by omega)];omega))<|.yw (.conv Z Fx.int5 Fx.int3 (c:=((op.toNat:Nat):Int)) ((w6 (by omega)).trans (by rw [hop])))<|.fA Z Fx.field240_4<|.lD Z Fx.agg2 Hm Z<|.yw (.build Z (Fx.bld83_0_2 _ _))<|.al Fx.zero83 Z λb7=>.sW .head Z Z Fx.size83 (by simp [Value.oneCell',strV,cNd]) Z<|.ns<|.fA Z Fx.field83_0<|.lD Z Fx.agg3 Hm Z<|.yw (.call Fx.call170 Z (λW s=>arity_any H op.toNat W s.agr))<|.yw (.max2 Z Z (c:=((m0:Nat):Int)) hm0)<|.aq Z<|.cu (X:=Str) [(0,_),(1,_),(4,_),(6,_),(7,_),(8,_)] ⟨Z,Z,Z,Z,Z,Z,Jt⟩ (λnm=>[]) (λnm=>H) (λnm=>[.box b7 [.int .i64 op.toNat,strV nm,.int .i64 (x.n).toInt,.slice none 0 0] 83,.box b6 (cNd x) 240,.box b4 [.int .i64 0,.string ⟨#[]⟩,.int .i64 0,.slice none 0 0] 83]) (λnm=>nm.length<=13) ?_ λnm hC=>?_
  ·
   refine .sr<|.fA Z Fx.field83_0<|.lD Z Fx.agg3 Hm Z<|.yw (.geq Z Z)<|.mv Z<|.e2 (λh40=>?_) (λh40=>?_)
   ·refine .gy (.fieldAddr Z Fx.field83_0)<|.gy (.load Z Fx.agg3 Hm Z)<|.gy (.leq Z Z)<|.yw (.pickT Z Z)<|.nt<|.cd Z (λh44=>?_) (λh44=>?_)
    ·exact .rg<|.fA Z Fx.field240_1<|.lD Z Fx.agg5 mem1 Z<|.yw (.call Fx.call128 Z (λW s=>word_any H x.nm W s.agr))<|.fA Z Fx.field83_1<|.st .head Z Z Fx.size9 Z (nb Z) Z<|.nt<|.me _ trivial ⟨Z,Z,Z,Z,Z,Z,Jt⟩ (λ_ s=>s) (by first | exact word_len _ | decide)
    exact .sk<|.tN<|.me _ trivial ⟨Z,Z,Z,Z,Z,Z,Jt⟩ (λ_ s=>s) (by first | exact word_len _ | decide)
   exact .gG<|.gG<|.gG<|.yw (.pickF Z Z)<|.nt<|.cF Z<|.sk<|.tN<|.me _ trivial ⟨Z,Z,Z,Z,Z,Z,Jt⟩ (λ_ s=>s) (by first | exact word_len _ | decide)
  have hnm:=hC;refine .cu (X:=Int64) [(0,_),(1,_),(4,_),(6,_),(7,_),(8,_)] ⟨Z,Z,Z,Z,Z,Z,Jt⟩ (λnn=>[]) (λnn=>H) (λnn=>[.box b7 [.int .i64 op.toNat,strV nm,.int .i64 (nn).toInt,.slice none 0 0] 83,.box b6 (cNd x) 240,.box b4 [.int .i64 0,.string ⟨#[]⟩,.int .i64 0,.slice none 0 0] 83]) (λnn=>True) ?_ λnn hC=>?_
  ·
   refine .sr<|.fA Z Fx.field83_0<|.lD Z Fx.agg3 Hm Z<|.yw (.neq Z Z)<|.nt<|.cd Z (λh51=>?_) (λh51=>?_)
   ·exact .rg<|.fA Z Fx.field83_2<|.st .head Z Z Fx.size2 Z (nb Z) Z<|.nt<|.me 0 trivial ⟨Z,Z,Z,Z,Z,Z,Jt⟩ (λ_ s=>s) trivial
   exact .sk<|.tN<|.me x.n trivial ⟨Z,Z,Z,Z,Z,Z,Jt⟩ (λ_ s=>s) trivial
  refine .cu (X:=Nat × Str × Int64) [(0,_),(1,_),(4,_),(7,_)] ⟨Z,Z,Z,Z,Jt⟩ (λz=>[(8,iN z.1)]) (λz=>H) (λz=>[.box b7 [.int .i64 op.toNat,strV z.2.1,.int .i64 (z.2.2).toInt,.slice none 0 0] 83,.box b6 (cNd x) 240,.box b4 [.int .i64 0,.string ⟨#[]⟩,.int .i64 0,.slice none 0 0] 83]) (λz=>z.1<=3/\z.2.1.length<=13) ?_ λz hC=>?_
  ·
   refine .sr<|.fA Z Fx.field240_3<|.lD Z Fx.agg4 mem1 Z<|.nt<|.cd Z (λh54=>?_) (λh54=>?_)
   ·refine .sr<|.fA Z Fx.field240_2<|.lD Z Fx.agg5 mem1 Z<|.yw (.rem Z Z (by decide) (c:=((x.ct.toNat % 4:Nat):Int)) (by rw [Al_Int_tmod_eq_emod_of_nonneg (by omega)];omega))<|.yw (.conv Z Fx.int5 Fx.int3 (c:=((x.ct.toNat % 4:Nat):Int)) (w6 (by omega)))<|.a Z Z<|.ns<|.fA Z Fx.field240_2<|.lD Z Fx.agg5 mem1 Z<|.yw (.rem Z Z (by decide) (c:=((x.ct.toNat % 5:Nat):Int)) (by rw [Al_Int_tmod_eq_emod_of_nonneg (by omega)];omega))<|.yw (.eql Z Z)<|.nt<|.cd Z (λh62=>?_) (λh62=>?_)
    ·refine .ar 9 #[false,false,false,false,false,false,false,false,false] (by kernel_rfl) Z Z<|.an 0 [3] (by kernel_rfl) ⟨?_,?_,Jt⟩
     ·
      refine .ao #[true,false,false,false,false,false,false,false,false] Z Z<|.fA Z Fx.field240_1<|.nx<|.an 1 [3] (by kernel_rfl) ⟨?_,?_,Jt⟩
      ·
       refine .ao #[true,true,false,false,false,false,false,false,false] Z Z<|.lD Z Fx.agg5 mem1 Z<|.nx<|.an 2 [3] (by kernel_rfl) ⟨?_,?_,Jt⟩
       ·
        refine .ao #[true,true,true,false,false,false,false,false,false] Z Z<|.yw (.call Fx.call128 Z (λW s=>word_any H x.nm W s.agr))<|.nx<|.an 3 [5] (by kernel_rfl) ⟨?_,?_,Jt⟩
        ·
         refine .ao #[true,true,true,true,false,false,false,false,false] Z Z<|.fA Z Fx.field240_4<|.nx<|.an 4 [5] (by kernel_rfl) ⟨?_,?_,Jt⟩
         ·
          refine .ao #[true,true,true,true,true,false,false,false,false] Z Z<|.lD Z Fx.agg2 mem1 Z<|.nx<|.an 5 [] (by kernel_rfl) ⟨?_,Jt⟩
          refine .ao #[true,true,true,true,true,true,false,false,false] Z Z<|.fA Z Fx.field83_1<|.nx<|.an 6 [] (by kernel_rfl) ⟨?_,Jt⟩
          refine .ao #[true,true,true,true,true,true,true,false,false] Z Z<|.st .head Z Z Fx.size9 Z (nb Z) Z<|.nx<|.an 7 [] (by kernel_rfl) ⟨?_,Jt⟩
          refine .ao #[true,true,true,true,true,true,true,true,false] Z Z<|.fA Z Fx.field83_2<|.nx<|.an 8 [] (by kernel_rfl) ⟨?_,Jt⟩
          exact .ao #[true,true,true,true,true,true,true,true,true] Z Z<|.st .head Z Z Fx.size2 Z (nb Z) Z<|.nx<|.ae (by kernel_rfl)<|.tN<|.me (x.ct.toNat % 4,wordR x.nm,x.n) ⟨Z,Jt⟩ ⟨Z,Z,Z,Z,Jt⟩ (λ_ s=>s) ⟨by dsimp only;omega,by dsimp only;first | exact word_len _ | exact hnm⟩
         refine .ao #[true,true,true,true,false,true,false,false,false] Z Z<|.fA Z Fx.field83_1<|.nx<|.an 4 [6] (by kernel_rfl) ⟨?_,?_,Jt⟩
         ·
          refine .ao #[true,true,true,true,true,true,false,false,false] Z Z<|.lD Z Fx.agg2 mem1 Z<|.nx<|.an 6 [] (by kernel_rfl) ⟨?_,Jt⟩
          refine .ao #[true,true,true,true,true,true,true,false,false] Z Z<|.st .head Z Z Fx.size9 Z (nb Z) Z<|.nx<|.an 7 [] (by kernel_rfl) ⟨?_,Jt⟩
          refine .ao #[true,true,true,true,true,true,true,true,false] Z Z<|.fA Z Fx.field83_2<|.nx<|.an 8 [] (by kernel_rfl) ⟨?_,Jt⟩
          exact .ao #[true,true,true,true,true,true,true,true,true] Z Z<|.st .head Z Z Fx.size2 Z (nb Z) Z<|.nx<|.ae (by kernel_rfl)<|.tN<|.me (x.ct.toNat % 4,wordR x.nm,x.n) ⟨Z,Jt⟩ ⟨Z,Z,Z,Z,Jt⟩ (λ_ s=>s) ⟨by dsimp only;omega,by dsimp only;first | exact word_len _ | exact hnm⟩
         refine .ao #[true,true,true,true,false,true,true,false,false] Z Z<|.st .head Z Z Fx.size9 Z (nb Z) Z<|.nx<|.an 4 [] (by kernel_rfl) ⟨?_,Jt⟩
         refine .ao #[true,true,true,true,true,true,true,false,false] Z Z<|.lD Z Fx.agg2 mem1 Z<|.nx<|.an 7 [] (by kernel_rfl) ⟨?_,Jt⟩
         refine .ao #[true,true,true,true,true,true,true,true,false] Z Z<|.fA Z Fx.field83_2<|.nx<|.an 8 [] (by kernel_rfl) ⟨?_,Jt⟩
         exact .ao #[true,true,true,true,true,true,true,true,true] Z Z<|.st .head Z Z Fx.size2 Z (nb Z) Z<|.nx<|.ae (by kernel_rfl)<|.tN<|.me (x.ct.toNat % 4,wordR x.nm,x.n) ⟨Z,Jt⟩ ⟨Z,Z,Z,Z,Jt⟩ (λ_ s=>s) ⟨by dsimp only;omega,by dsimp only;first | exact word_len _ | exact hnm⟩
        refine .ao #[true,true,true,false,false,true,false,false,false] Z Z<|.fA Z Fx.field83_1<|.nx<|.an 3 [6] (by kernel_rfl) ⟨?_,?_,Jt⟩
        ·
         refine .ao #[true,true,true,true,false,true,false,false,false] Z Z<|.fA Z Fx.field240_4<|.nx<|.an 4 [6] (by kernel_rfl) ⟨?_,?_,Jt⟩
         ·
          refine .ao #[true,true,true,true,true,true,false,false,false] Z Z<|.lD Z Fx.agg2 mem1 Z<|.nx<|.an 6 [] (by kernel_rfl) ⟨?_,Jt⟩
          refine .ao #[true,true,true,true,true,true,true,false,false] Z Z<|.st .head Z Z Fx.size9 Z (nb Z) Z<|.nx<|.an 7 [] (by kernel_rfl) ⟨?_,Jt⟩
          refine .ao #[true,true,true,true,true,true,true,true,false] Z Z<|.fA Z Fx.field83_2<|.nx<|.an 8 [] (by kernel_rfl) ⟨?_,Jt⟩
          exact .ao #[true,true,true,true,true,true,true,true,true] Z Z<|.st .head Z Z Fx.size2 Z (nb Z) Z<|.nx<|.ae (by kernel_rfl)<|.tN<|.me (x.ct.toNat % 4,wordR x.nm,x.n) ⟨Z,Jt⟩ ⟨Z,Z,Z,Z,Jt⟩ (λ_ s=>s) ⟨by dsimp only;omega,by dsimp only;first | exact word_len _ | exact hnm⟩
         refine .ao #[true,true,true,true,false,true,true,false,false] Z Z<|.st .head Z Z Fx.size9 Z (nb Z) Z<|.nx<|.an 4 [] (by kernel_rfl) ⟨?_,Jt⟩
         refine .ao #[true,true,true,true,true,true,true,false,false] Z Z<|.lD Z Fx.agg2 mem1 Z<|.nx<|.an 7 [] (by kernel_rfl) ⟨?_,Jt⟩
         refine .ao #[true,true,true,true,true,true,true,true,false] Z Z<|.fA Z Fx.field83_2<|.nx<|.an 8 [] (by kernel_rfl) ⟨?_,Jt⟩
         exact .ao #[true,true,true,true,true,true,true,true,true] Z Z<|.st .head Z Z Fx.size2 Z (nb Z) Z<|.nx<|.ae (by kernel_rfl)<|.tN<|.me (x.ct.toNat % 4,wordR x.nm,x.n) ⟨Z,Jt⟩ ⟨Z,Z,Z,Z,Jt⟩ (λ_ s=>s) ⟨by dsimp only;omega,by dsimp only;first | exact word_len _ | exact hnm⟩
        refine .ao #[true,true,true,false,false,true,true,false,false] Z Z<|.st .head Z Z Fx.size9 Z (nb Z) Z<|.nx<|.an 3 [] (by kernel_rfl) ⟨?_,Jt⟩
        refine .ao #[true,true,true,true,false,true,true,false,false] Z Z<|.fA Z Fx.field240_4<|.nx<|.an 4 [] (by kernel_rfl) ⟨?_,Jt⟩
        refine .ao #[true,true,true,true,true,true,true,false,false] Z Z<|.lD Z Fx.agg2 mem1 Z<|.nx<|.an 7 [] (by kernel_rfl) ⟨?_,Jt⟩
        refine .ao #[true,true,true,true,true,true,true,true,false] Z Z<|.fA Z Fx.field83_2<|.nx<|.an 8 [] (by kernel_rfl) ⟨?_,Jt⟩
        exact .ao #[true,true,true,true,true,true,true,true,true] Z Z<|.st .head Z Z Fx.size2 Z (nb Z) Z<|.nx<|.ae (by kernel_rfl)<|.tN<|.me (x.ct.toNat % 4,wordR x.nm,x.n) ⟨Z,Jt⟩ ⟨Z,Z,Z,Z,Jt⟩ (λ_ s=>s) ⟨by dsimp only;omega,by dsimp only;first | exact word_len _ | exact hnm⟩
       refine .ao #[true,true,false,true,false,false,false,false,false] Z Z<|.fA Z Fx.field240_4<|.nx<|.an 2 [4] (by kernel_rfl) ⟨?_,?_,Jt⟩
       ·
        refine .ao #[true,true,true,true,false,false,false,false,false] Z Z<|.yw (.call Fx.call128 Z (λW s=>word_any H x.nm W s.agr))<|.nx<|.an 4 [5] (by kernel_rfl) ⟨?_,?_,Jt⟩
        ·
         refine .ao #[true,true,true,true,true,false,false,false,false] Z Z<|.lD Z Fx.agg2 mem1 Z<|.nx<|.an 5 [] (by kernel_rfl) ⟨?_,Jt⟩
         refine .ao #[true,true,true,true,true,true,false,false,false] Z Z<|.fA Z Fx.field83_1<|.nx<|.an 6 [] (by kernel_rfl) ⟨?_,Jt⟩
         refine .ao #[true,true,true,true,true,true,true,false,false] Z Z<|.st .head Z Z Fx.size9 Z (nb Z) Z<|.nx<|.an 7 [] (by kernel_rfl) ⟨?_,Jt⟩
         refine .ao #[true,true,true,true,true,true,true,true,false] Z Z<|.fA Z Fx.field83_2<|.nx<|.an 8 [] (by kernel_rfl) ⟨?_,Jt⟩
         exact .ao #[true,true,true,true,true,true,true,true,true] Z Z<|.st .head Z Z Fx.size2 Z (nb Z) Z<|.nx<|.ae (by kernel_rfl)<|.tN<|.me (x.ct.toNat % 4,wordR x.nm,x.n) ⟨Z,Jt⟩ ⟨Z,Z,Z,Z,Jt⟩ (λ_ s=>s) ⟨by dsimp only;omega,by dsimp only;first | exact word_len _ | exact hnm⟩
        refine .ao #[true,true,true,true,false,true,false,false,false] Z Z<|.fA Z Fx.field83_1<|.nx<|.an 4 [6] (by kernel_rfl) ⟨?_,?_,Jt⟩
        ·
         refine .ao #[true,true,true,true,true,true,false,false,false] Z Z<|.lD Z Fx.agg2 mem1 Z<|.nx<|.an 6 [] (by kernel_rfl) ⟨?_,Jt⟩
         refine .ao #[true,true,true,true,true,true,true,false,false] Z Z<|.st .head Z Z Fx.size9 Z (nb Z) Z<|.nx<|.an 7 [] (by kernel_rfl) ⟨?_,Jt⟩
         refine .ao #[true,true,true,true,true,true,true,true,false] Z Z<|.fA Z Fx.field83_2<|.nx<|.an 8 [] (by kernel_rfl) ⟨?_,Jt⟩
         exact .ao #[true,true,true,true,true,true,true,true,true] Z Z<|.st .head Z Z Fx.size2 Z (nb Z) Z<|.nx<|.ae (by kernel_rfl)<|.tN<|.me (x.ct.toNat % 4,wordR x.nm,x.n) ⟨Z,Jt⟩ ⟨Z,Z,Z,Z,Jt⟩ (λ_ s=>s) ⟨by dsimp only;omega,by dsimp only;first | exact word_len _ | exact hnm⟩
        refine .ao #[true,true,true,true,false,true,true,false,false] Z Z<|.st .head Z Z Fx.size9 Z (nb Z) Z<|.nx<|.an 4 [] (by kernel_rfl) ⟨?_,Jt⟩
        refine .ao #[true,true,true,true,true,true,true,false,false] Z Z<|.lD Z Fx.agg2 mem1 Z<|.nx<|.an 7 [] (by kernel_rfl) ⟨?_,Jt⟩
        refine .ao #[true,true,true,true,true,true,true,true,false] Z Z<|.fA Z Fx.field83_2<|.nx<|.an 8 [] (by kernel_rfl) ⟨?_,Jt⟩
        exact .ao #[true,true,true,true,true,true,true,true,true] Z Z<|.st .head Z Z Fx.size2 Z (nb Z) Z<|.nx<|.ae (by kernel_rfl)<|.tN<|.me (x.ct.toNat % 4,wordR x.nm,x.n) ⟨Z,Jt⟩ ⟨Z,Z,Z,Z,Jt⟩ (λ_ s=>s) ⟨by dsimp only;omega,by dsimp only;first | exact word_len _ | exact hnm⟩
       refine .ao #[true,true,false,true,true,false,false,false,false] Z Z<|.lD Z Fx.agg2 mem1 Z<|.nx<|.an 2 [] (by kernel_rfl) ⟨?_,Jt⟩
       refine .ao #[true,true,true,true,true,false,false,false,false] Z Z<|.yw (.call Fx.call128 Z (λW s=>word_any H x.nm W s.agr))<|.nx<|.an 5 [] (by kernel_rfl) ⟨?_,Jt⟩
       refine .ao #[true,true,true,true,true,true,false,false,false] Z Z<|.fA Z Fx.field83_1<|.nx<|.an 6 [] (by kernel_rfl) ⟨?_,Jt⟩
       refine .ao #[true,true,true,true,true,true,true,false,false] Z Z<|.st .head Z Z Fx.size9 Z (nb Z) Z<|.nx<|.an 7 [] (by kernel_rfl) ⟨?_,Jt⟩
       refine .ao #[true,true,true,true,true,true,true,true,false] Z Z<|.fA Z Fx.field83_2<|.nx<|.an 8 [] (by kernel_rfl) ⟨?_,Jt⟩
       exact .ao #[true,true,true,true,true,true,true,true,true] Z Z<|.st .head Z Z Fx.size2 Z (nb Z) Z<|.nx<|.ae (by kernel_rfl)<|.tN<|.me (x.ct.toNat % 4,wordR x.nm,x.n) ⟨Z,Jt⟩ ⟨Z,Z,Z,Z,Jt⟩ (λ_ s=>s) ⟨by dsimp only;omega,by dsimp only;first | exact word_len _ | exact hnm⟩
      refine .ao #[true,false,false,true,false,false,false,false,false] Z Z<|.fA Z Fx.field240_4<|.nx<|.an 1 [4] (by kernel_rfl) ⟨?_,?_,Jt⟩
      ·
       refine .ao #[true,true,false,true,false,false,false,false,false] Z Z<|.lD Z Fx.agg5 mem1 Z<|.nx<|.an 2 [4] (by kernel_rfl) ⟨?_,?_,Jt⟩
       ·
        refine .ao #[true,true,true,true,false,false,false,false,false] Z Z<|.yw (.call Fx.call128 Z (λW s=>word_any H x.nm W s.agr))<|.nx<|.an 4 [5] (by kernel_rfl) ⟨?_,?_,Jt⟩
        ·
         refine .ao #[true,true,true,true,true,false,false,false,false] Z Z<|.lD Z Fx.agg2 mem1 Z<|.nx<|.an 5 [] (by kernel_rfl) ⟨?_,Jt⟩
         refine .ao #[true,true,true,true,true,true,false,false,false] Z Z<|.fA Z Fx.field83_1<|.nx<|.an 6 [] (by kernel_rfl) ⟨?_,Jt⟩
         refine .ao #[true,true,true,true,true,true,true,false,false] Z Z<|.st .head Z Z Fx.size9 Z (nb Z) Z<|.nx<|.an 7 [] (by kernel_rfl) ⟨?_,Jt⟩
         refine .ao #[true,true,true,true,true,true,true,true,false] Z Z<|.fA Z Fx.field83_2<|.nx<|.an 8 [] (by kernel_rfl) ⟨?_,Jt⟩
         exact .ao #[true,true,true,true,true,true,true,true,true] Z Z<|.st .head Z Z Fx.size2 Z (nb Z) Z<|.nx<|.ae (by kernel_rfl)<|.tN<|.me (x.ct.toNat % 4,wordR x.nm,x.n) ⟨Z,Jt⟩ ⟨Z,Z,Z,Z,Jt⟩ (λ_ s=>s) ⟨by dsimp only;omega,by dsimp only;first | exact word_len _ | exact hnm⟩
        refine .ao #[true,true,true,true,false,true,false,false,false] Z Z<|.fA Z Fx.field83_1<|.nx<|.an 4 [6] (by kernel_rfl) ⟨?_,?_,Jt⟩
        ·
         refine .ao #[true,true,true,true,true,true,false,false,false] Z Z<|.lD Z Fx.agg2 mem1 Z<|.nx<|.an 6 [] (by kernel_rfl) ⟨?_,Jt⟩
         refine .ao #[true,true,true,true,true,true,true,false,false] Z Z<|.st .head Z Z Fx.size9 Z (nb Z) Z<|.nx<|.an 7 [] (by kernel_rfl) ⟨?_,Jt⟩
         refine .ao #[true,true,true,true,true,true,true,true,false] Z Z<|.fA Z Fx.field83_2<|.nx<|.an 8 [] (by kernel_rfl) ⟨?_,Jt⟩
         exact .ao #[true,true,true,true,true,true,true,true,true] Z Z<|.st .head Z Z Fx.size2 Z (nb Z) Z<|.nx<|.ae (by kernel_rfl)<|.tN<|.me (x.ct.toNat % 4,wordR x.nm,x.n) ⟨Z,Jt⟩ ⟨Z,Z,Z,Z,Jt⟩ (λ_ s=>s) ⟨by dsimp only;omega,by dsimp only;first | exact word_len _ | exact hnm⟩
        refine .ao #[true,true,true,true,false,true,true,false,false] Z Z<|.st .head Z Z Fx.size9 Z (nb Z) Z<|.nx<|.an 4 [] (by kernel_rfl) ⟨?_,Jt⟩
        refine .ao #[true,true,true,true,true,true,true,false,false] Z Z<|.lD Z Fx.agg2 mem1 Z<|.nx<|.an 7 [] (by kernel_rfl) ⟨?_,Jt⟩
        refine .ao #[true,true,true,true,true,true,true,true,false] Z Z<|.fA Z Fx.field83_2<|.nx<|.an 8 [] (by kernel_rfl) ⟨?_,Jt⟩
        exact .ao #[true,true,true,true,true,true,true,true,true] Z Z<|.st .head Z Z Fx.size2 Z (nb Z) Z<|.nx<|.ae (by kernel_rfl)<|.tN<|.me (x.ct.toNat % 4,wordR x.nm,x.n) ⟨Z,Jt⟩ ⟨Z,Z,Z,Z,Jt⟩ (λ_ s=>s) ⟨by dsimp only;omega,by dsimp only;first | exact word_len _ | exact hnm⟩
       refine .ao #[true,true,false,true,true,false,false,false,false] Z Z<|.lD Z Fx.agg2 mem1 Z<|.nx<|.an 2 [] (by kernel_rfl) ⟨?_,Jt⟩
       refine .ao #[true,true,true,true,true,false,false,false,false] Z Z<|.yw (.call Fx.call128 Z (λW s=>word_any H x.nm W s.agr))<|.nx<|.an 5 [] (by kernel_rfl) ⟨?_,Jt⟩
       refine .ao #[true,true,true,true,true,true,false,false,false] Z Z<|.fA Z Fx.field83_1<|.nx<|.an 6 [] (by kernel_rfl) ⟨?_,Jt⟩
       refine .ao #[true,true,true,true,true,true,true,false,false] Z Z<|.st .head Z Z Fx.size9 Z (nb Z) Z<|.nx<|.an 7 [] (by kernel_rfl) ⟨?_,Jt⟩
       refine .ao #[true,true,true,true,true,true,true,true,false] Z Z<|.fA Z Fx.field83_2<|.nx<|.an 8 [] (by kernel_rfl) ⟨?_,Jt⟩
       exact .ao #[true,true,true,true,true,true,true,true,true] Z Z<|.st .head Z Z Fx.size2 Z (nb Z) Z<|.nx<|.ae (by kernel_rfl)<|.tN<|.me (x.ct.toNat % 4,wordR x.nm,x.n) ⟨Z,Jt⟩ ⟨Z,Z,Z,Z,Jt⟩ (λ_ s=>s) ⟨by dsimp only;omega,by dsimp only;first | exact word_len _ | exact hnm⟩
      refine .ao #[true,false,false,true,true,false,false,false,false] Z Z<|.lD Z Fx.agg2 mem1 Z<|.nx<|.an 1 [] (by kernel_rfl) ⟨?_,Jt⟩
      refine .ao #[true,true,false,true,true,false,false,false,false] Z Z<|.lD Z Fx.agg5 mem1 Z<|.nx<|.an 2 [] (by kernel_rfl) ⟨?_,Jt⟩
      refine .ao #[true,true,true,true,true,false,false,false,false] Z Z<|.yw (.call Fx.call128 Z (λW s=>word_any H x.nm W s.agr))<|.nx<|.an 5 [] (by kernel_rfl) ⟨?_,Jt⟩
      refine .ao #[true,true,true,true,true,true,false,false,false] Z Z<|.fA Z Fx.field83_1<|.nx<|.an 6 [] (by kernel_rfl) ⟨?_,Jt⟩
      refine .ao #[true,true,true,true,true,true,true,false,false] Z Z<|.st .head Z Z Fx.size9 Z (nb Z) Z<|.nx<|.an 7 [] (by kernel_rfl) ⟨?_,Jt⟩
      refine .ao #[true,true,true,true,true,true,true,true,false] Z Z<|.fA Z Fx.field83_2<|.nx<|.an 8 [] (by kernel_rfl) ⟨?_,Jt⟩
      exact .ao #[true,true,true,true,true,true,true,true,true] Z Z<|.st .head Z Z Fx.size2 Z (nb Z) Z<|.nx<|.ae (by kernel_rfl)<|.tN<|.me (x.ct.toNat % 4,wordR x.nm,x.n) ⟨Z,Jt⟩ ⟨Z,Z,Z,Z,Jt⟩ (λ_ s=>s) ⟨by dsimp only;omega,by dsimp only;first | exact word_len _ | exact hnm⟩
     refine .ao #[false,false,false,true,false,false,false,false,false] Z Z<|.fA Z Fx.field240_4<|.nx<|.an 0 [4] (by kernel_rfl) ⟨?_,?_,Jt⟩
     ·
      refine .ao #[true,false,false,true,false,false,false,false,false] Z Z<|.fA Z Fx.field240_1<|.nx<|.an 1 [4] (by kernel_rfl) ⟨?_,?_,Jt⟩
      ·
       refine .ao #[true,true,false,true,false,false,false,false,false] Z Z<|.lD Z Fx.agg5 mem1 Z<|.nx<|.an 2 [4] (by kernel_rfl) ⟨?_,?_,Jt⟩
       ·
        refine .ao #[true,true,true,true,false,false,false,false,false] Z Z<|.yw (.call Fx.call128 Z (λW s=>word_any H x.nm W s.agr))<|.nx<|.an 4 [5] (by kernel_rfl) ⟨?_,?_,Jt⟩
        ·
         refine .ao #[true,true,true,true,true,false,false,false,false] Z Z<|.lD Z Fx.agg2 mem1 Z<|.nx<|.an 5 [] (by kernel_rfl) ⟨?_,Jt⟩
         refine .ao #[true,true,true,true,true,true,false,false,false] Z Z<|.fA Z Fx.field83_1<|.nx<|.an 6 [] (by kernel_rfl) ⟨?_,Jt⟩
         refine .ao #[true,true,true,true,true,true,true,false,false] Z Z<|.st .head Z Z Fx.size9 Z (nb Z) Z<|.nx<|.an 7 [] (by kernel_rfl) ⟨?_,Jt⟩
         refine .ao #[true,true,true,true,true,true,true,true,false] Z Z<|.fA Z Fx.field83_2<|.nx<|.an 8 [] (by kernel_rfl) ⟨?_,Jt⟩
         exact .ao #[true,true,true,true,true,true,true,true,true] Z Z<|.st .head Z Z Fx.size2 Z (nb Z) Z<|.nx<|.ae (by kernel_rfl)<|.tN<|.me (x.ct.toNat % 4,wordR x.nm,x.n) ⟨Z,Jt⟩ ⟨Z,Z,Z,Z,Jt⟩ (λ_ s=>s) ⟨by dsimp only;omega,by dsimp only;first | exact word_len _ | exact hnm⟩
        refine .ao #[true,true,true,true,false,true,false,false,false] Z Z<|.fA Z Fx.field83_1<|.nx<|.an 4 [6] (by kernel_rfl) ⟨?_,?_,Jt⟩
        ·
         refine .ao #[true,true,true,true,true,true,false,false,false] Z Z<|.lD Z Fx.agg2 mem1 Z<|.nx<|.an 6 [] (by kernel_rfl) ⟨?_,Jt⟩
         refine .ao #[true,true,true,true,true,true,true,false,false] Z Z<|.st .head Z Z Fx.size9 Z (nb Z) Z<|.nx<|.an 7 [] (by kernel_rfl) ⟨?_,Jt⟩
         refine .ao #[true,true,true,true,true,true,true,true,false] Z Z<|.fA Z Fx.field83_2<|.nx<|.an 8 [] (by kernel_rfl) ⟨?_,Jt⟩
         exact .ao #[true,true,true,true,true,true,true,true,true] Z Z<|.st .head Z Z Fx.size2 Z (nb Z) Z<|.nx<|.ae (by kernel_rfl)<|.tN<|.me (x.ct.toNat % 4,wordR x.nm,x.n) ⟨Z,Jt⟩ ⟨Z,Z,Z,Z,Jt⟩ (λ_ s=>s) ⟨by dsimp only;omega,by dsimp only;first | exact word_len _ | exact hnm⟩
        refine .ao #[true,true,true,true,false,true,true,false,false] Z Z<|.st .head Z Z Fx.size9 Z (nb Z) Z<|.nx<|.an 4 [] (by kernel_rfl) ⟨?_,Jt⟩
        refine .ao #[true,true,true,true,true,true,true,false,false] Z Z<|.lD Z Fx.agg2 mem1 Z<|.nx<|.an 7 [] (by kernel_rfl) ⟨?_,Jt⟩
        refine .ao #[true,true,true,true,true,true,true,true,false] Z Z<|.fA Z Fx.field83_2<|.nx<|.an 8 [] (by kernel_rfl) ⟨?_,Jt⟩
        exact .ao #[true,true,true,true,true,true,true,true,true] Z Z<|.st .head Z Z Fx.size2 Z (nb Z) Z<|.nx<|.ae (by kernel_rfl)<|.tN<|.me (x.ct.toNat % 4,wordR x.nm,x.n) ⟨Z,Jt⟩ ⟨Z,Z,Z,Z,Jt⟩ (λ_ s=>s) ⟨by dsimp only;omega,by dsimp only;first | exact word_len _ | exact hnm⟩
       refine .ao #[true,true,false,true,true,false,false,false,false] Z Z<|.lD Z Fx.agg2 mem1 Z<|.nx<|.an 2 [] (by kernel_rfl) ⟨?_,Jt⟩
       refine .ao #[true,true,true,true,true,false,false,false,false] Z Z<|.yw (.call Fx.call128 Z (λW s=>word_any H x.nm W s.agr))<|.nx<|.an 5 [] (by kernel_rfl) ⟨?_,Jt⟩
       refine .ao #[true,true,true,true,true,true,false,false,false] Z Z<|.fA Z Fx.field83_1<|.nx<|.an 6 [] (by kernel_rfl) ⟨?_,Jt⟩
       refine .ao #[true,true,true,true,true,true,true,false,false] Z Z<|.st .head Z Z Fx.size9 Z (nb Z) Z<|.nx<|.an 7 [] (by kernel_rfl) ⟨?_,Jt⟩
       refine .ao #[true,true,true,true,true,true,true,true,false] Z Z<|.fA Z Fx.field83_2<|.nx<|.an 8 [] (by kernel_rfl) ⟨?_,Jt⟩
       exact .ao #[true,true,true,true,true,true,true,true,true] Z Z<|.st .head Z Z Fx.size2 Z (nb Z) Z<|.nx<|.ae (by kernel_rfl)<|.tN<|.me (x.ct.toNat % 4,wordR x.nm,x.n) ⟨Z,Jt⟩ ⟨Z,Z,Z,Z,Jt⟩ (λ_ s=>s) ⟨by dsimp only;omega,by dsimp only;first | exact word_len _ | exact hnm⟩
      refine .ao #[true,false,false,true,true,false,false,false,false] Z Z<|.lD Z Fx.agg2 mem1 Z<|.nx<|.an 1 [] (by kernel_rfl) ⟨?_,Jt⟩
      refine .ao #[true,true,false,true,true,false,false,false,false] Z Z<|.lD Z Fx.agg5 mem1 Z<|.nx<|.an 2 [] (by kernel_rfl) ⟨?_,Jt⟩
      refine .ao #[true,true,true,true,true,false,false,false,false] Z Z<|.yw (.call Fx.call128 Z (λW s=>word_any H x.nm W s.agr))<|.nx<|.an 5 [] (by kernel_rfl) ⟨?_,Jt⟩
      refine .ao #[true,true,true,true,true,true,false,false,false] Z Z<|.fA Z Fx.field83_1<|.nx<|.an 6 [] (by kernel_rfl) ⟨?_,Jt⟩
      refine .ao #[true,true,true,true,true,true,true,false,false] Z Z<|.st .head Z Z Fx.size9 Z (nb Z) Z<|.nx<|.an 7 [] (by kernel_rfl) ⟨?_,Jt⟩
      refine .ao #[true,true,true,true,true,true,true,true,false] Z Z<|.fA Z Fx.field83_2<|.nx<|.an 8 [] (by kernel_rfl) ⟨?_,Jt⟩
      exact .ao #[true,true,true,true,true,true,true,true,true] Z Z<|.st .head Z Z Fx.size2 Z (nb Z) Z<|.nx<|.ae (by kernel_rfl)<|.tN<|.me (x.ct.toNat % 4,wordR x.nm,x.n) ⟨Z,Jt⟩ ⟨Z,Z,Z,Z,Jt⟩ (λ_ s=>s) ⟨by dsimp only;omega,by dsimp only;first | exact word_len _ | exact hnm⟩
     refine .ao #[false,false,false,true,true,false,false,false,false] Z Z<|.lD Z Fx.agg2 mem1 Z<|.nx<|.an 0 [] (by kernel_rfl) ⟨?_,Jt⟩
     refine .ao #[true,false,false,true,true,false,false,false,false] Z Z<|.fA Z Fx.field240_1<|.nx<|.an 1 [] (by kernel_rfl) ⟨?_,Jt⟩
     refine .ao #[true,true,false,true,true,false,false,false,false] Z Z<|.lD Z Fx.agg5 mem1 Z<|.nx<|.an 2 [] (by kernel_rfl) ⟨?_,Jt⟩
     refine .ao #[true,true,true,true,true,false,false,false,false] Z Z<|.yw (.call Fx.call128 Z (λW s=>word_any H x.nm W s.agr))<|.nx<|.an 5 [] (by kernel_rfl) ⟨?_,Jt⟩
     refine .ao #[true,true,true,true,true,true,false,false,false] Z Z<|.fA Z Fx.field83_1<|.nx<|.an 6 [] (by kernel_rfl) ⟨?_,Jt⟩
     refine .ao #[true,true,true,true,true,true,true,false,false] Z Z<|.st .head Z Z Fx.size9 Z (nb Z) Z<|.nx<|.an 7 [] (by kernel_rfl) ⟨?_,Jt⟩
     refine .ao #[true,true,true,true,true,true,true,true,false] Z Z<|.fA Z Fx.field83_2<|.nx<|.an 8 [] (by kernel_rfl) ⟨?_,Jt⟩
     exact .ao #[true,true,true,true,true,true,true,true,true] Z Z<|.st .head Z Z Fx.size2 Z (nb Z) Z<|.nx<|.ae (by kernel_rfl)<|.tN<|.me (x.ct.toNat % 4,wordR x.nm,x.n) ⟨Z,Jt⟩ ⟨Z,Z,Z,Z,Jt⟩ (λ_ s=>s) ⟨by dsimp only;omega,by dsimp only;first | exact word_len _ | exact hnm⟩
    exact .sk<|.tN<|.me (x.ct.toNat % 4,nm,nn) ⟨Z,Jt⟩ ⟨Z,Z,Z,Z,Jt⟩ (λ_ s=>s) ⟨by dsimp only;omega,by dsimp only;first | exact word_len _ | exact hnm⟩
   exact .sk<|.tN<|.me (m0,nm,nn) ⟨Z,Jt⟩ ⟨Z,Z,Z,Z,Jt⟩ (λ_ s=>s) ⟨by dsimp only;omega,by dsimp only;first | exact word_len _ | exact hnm⟩
  obtain ⟨m,nm,nn⟩:=z;dsimp only at hC|-;obtain ⟨hm3,hnm⟩:=hC;refine Sx.row0 83 4 ?_;refine .sq<|.sr<|.aq Z<|.bk<|.lp (X:=Nat × Hp × Value × List Value × Value) [(1,_),(4,_),(7,_),(8,_)] ⟨Z,Z,Z,Z,Jt⟩ [_,_] (λz=>[(9,iN z.1),(0,z.2.2.2.2)]) (λz=>z.2.1) (λz=>[.row 83 4 z.2.2.1 z.1 z.2.2.2.1,.box b7 [.int .i64 op.toNat,strV nm,.int .i64 (nn).toInt,z.2.2.1] 83]) (λz=>z.1<=m/\HUp w H z.2.1/\∃ (es:List Ex) (rest:List Nd),es.length=z.1/\RepZ z.2.1 4 (es.map (dEx .i64)) z.2.2.2.1/\goodEs d es/\Ex.alls n13 es=true/\Ex.counts es+3 * rest.length+3<=3 * l.length+es.length/\Rep z.2.1 (.seq 5 (rest.map dNd)) [z.2.2.2.2]) (λz=>m - z.1) (0,H,.slice none 0 0,[],_) (λ_ s=>s) ⟨Z,Z,Jt⟩ ⟨by simp,.refl,[],l.drop 1,Z,RepZ.nil,goodEs_nil d,Z,(by rw [Ex.counts,Al_List_length_drop,Al_List_length_nil];omega),(by have h5:=rep_drop h (lo:=1) (by omega);rw [<-Al_List_map_drop] at h5;exact h5)⟩ λz hC=>?_
  obtain ⟨k,H1,r,xs,rv⟩:=z;dsimp only at hC|-;obtain ⟨hk0,u1,es,rest,hlen,hz,hgs,h13,hcn,hrs⟩:=hC;refine .sq<|.sm Z<|.mv Z<|.yw (.lss Z Z)<|.nt<|.ce Z (λh72=>?_) (λh72=>?_)
  ·have hk:k<m:=by omega
   refine .sk<|.tN<|.sq<|.bk<|.sm Z<|.mv Z<|.yw (.add Z Z w7)<|.ct (X:=List Value × Value) Fx.call169 Z (λW s=>ih (f - 1) (by omega) (d+1) (by omega) H1 _ _ W hrs s.agr) Z λy2 H2 hc2 u2=>?_
   obtain ⟨x2,y2⟩:=y2;obtain ⟨x2e,rest2,hc2,hg2,h132,hcn2,hrs2⟩:=hc2;dsimp only at hc2 hrs2|-;obtain ⟨op2,nm2,n2,args2⟩:=x2e;obtain ⟨p2,c2,rfl,hs2,hnm2⟩:=ex_open hc2;refine .mv Z<|.yw (.extract Z Z)<|.yw (.extract Z Z)<|.al Fx.zero83 Z λb10=>.sW .head Z Z Fx.size83 (by simp [Value.oneCell',strV,cNd]) Z<|.aq Z<|.rg<|.fA Z Fx.field83_3<|.lD Z Fx.agg24 mem2 Z<|.yw (.loadW Z Fx.agg83 Hm Z)<|.bl Z (Fx.bsl24_1 _ _ _ _) Z λb85=>.ap (news:=[.int .i64 op2.toNat,strV nm2,.int .i64 n2.toInt,.slice p2 args2.length c2]) Fx.row24 Z (λ_=>upd2) Z (.box Hm z0) Z (by simp [Value.oneCell',strV]) (by simp [maxLen];omega) (by omega) Z λr86 _=>?_
   refine At.ra (by first | exact .tail _ (.tail _ Hm) | exact .tail _ (.tail _ (.tail _ Hm))) λp86 c86 e86=>?_;exact .mv Z<|.fA Z Fx.field83_3<|.st upd3 Z Z Fx.size24 (by rw [e86];rfl) (nb Z) Z<|.a Z Z<|.nl<|.bN<|.tN<|.rg<|.mv Z<|.yw (.add Z Z w7)<|.aq Z<|.ag (x:=(k,H1,r,xs,rv)) (k+1,H2,r86,xs++[.int .i64 op2.toNat,strV nm2,.int .i64 n2.toInt,.slice p2 args2.length c2],y2) ⟨Z,Z,Jt⟩ ⟨Z,Z,Z,Z,Jt⟩ (λ_ s=>(s.pick [2,3,4,5] _ Z Z)) ⟨by dsimp only;omega,u1.trans u2,es++[.mk op2 nm2 n2 args2],rest2,by simp;omega,by rw [Al_List_map_append];exact (hz.up u2.up).snoc hc2 Z,goodEs_snoc hgs hg2,(by rw [alls_app,h13,Ex.alls,h132];rfl),(by rw [ex_counts_app,Ex.counts,Ex.counts,Al_List_length_append];simp only [Al_List_length_cons,Al_List_length_nil];omega),hrs2⟩ (by dsimp only;omega)
  obtain rfl:k=m:=by omega
  refine At.ra Hm λp86 c86 e86=>?_;subst e86;refine .ex<|.eb<|.sr<|.yw (.loadW Z Fx.agg83 mem1 Z)<|.mv Z<|.sW upd3 Z Z Fx.size83 (by simp [Value.oneCell',strV,cNd]) Z<|.az Z<|?_
  refine At.pm [0,3] [_,_] rfl rfl ?_;refine freezeSeq (ds:=es.map (dEx .i64)) (by simp;omega) hz λH3 p3 c3 u3 hr3 hs3=>?_;refine y7 Z (.cons (.cell Z Fx.agg83 Hm rfl) (.cons (.tmp Z) .nil)) rfl λW s=>⟨(_,_),H3,⟨_,rest,ex_shut (by omega) hs3,?_,?_,?_,hrs.up u3.up⟩,Z,(u1.trans u3).grow s⟩
  ·rw [goodE_mk];exact ⟨by omega,hgs⟩
  ·rw [all_mk,h13,Al_Bool_and_true];exact Al_decide_eq_true hnm
  ·rw [ex_count];omega
def BuiltX (x:List Value) (H':Hp):Prop:=∃ e:Ex,Rep H' (dEx .i64 e) x/\goodE 1 e/\Ex.all n13 e=true/\e.count<=181
variable {H:Hp}
theorem ex_len7 {k:IntKind} {e:Ex} {cs:List Value} (h:Rep H (dEx k e) cs):cs.length=4:=by
 obtain ⟨op,nm,n,args⟩:=e;obtain ⟨_,_,rfl,_,_⟩:=ex_open h
 rfl
theorem buildX_any (H:Hp) (l:List Nd) (v:Value) (h0:Rep H (.seq 5 (l.map dNd)) [v]) (w:World) (hA:Agr H w) :
 Calls prg 130 #[v] w λr w'=>∃ (x:List Value) (H':Hp),BuiltX x H'/\r=.returned (.agg x.toArray)/\Grow H w H' w':=by
 obtain ⟨p,c,e,_⟩:=h0.sl;simp only [Al_List_cons_injEq,Al_and_true,Al_List_length_map] at e;subst e;have h:=h0;have hcap:=h.cap;refine Sx.enter (H:=H) func130 rfl ntmps130 rfl hA ?_;refine .sr<|.al Fx.zero83 Z λb2=>.ns<|.mv Z<|.mv Z<|.yw (.lenSl Fx.sl149 Z)<|.yw (.min2 Z Z (c:=((min l.length 60:Nat):Int)) (by omega))<|.yw (.cutHi2 Fx.sl149 Z Z (h:=min l.length 60) Z (by have:=h.len.2.1;omega))<|.ct (X:=List Value × Value) Fx.call169 Z (λW s=>buildC_any 30 1 Z H (l.take (min l.length 60)) _ W (by rw [Al_List_map_take];exact rep_take2 h (by omega)) s.agr) Z λy H1 hc u1=>?_
 obtain ⟨x,y⟩:=y;obtain ⟨e,rest,hx,hg,h13,hcn,_⟩:=hc;dsimp only at hx;rw [Al_List_length_take] at hcn;refine .mv Z<|.yw (.extract Z Z)<|.yw (.extract Z Z)<|.al Fx.zero83 Z λb3=>.sV .head Z Z Fx.size83 (ex_len7 hx) hx.one Z<|.a Z Z<|.ns<|.yw (.loadW Z Fx.agg83 Hm (ex_len7 hx))<|.sV upd1 Z Z Fx.size83 (ex_len7 hx) hx.one Z<|.nt<|.rt<|?_
 exact y8 Z (.cell Z Fx.agg83 mem1 (ex_len7 hx)) λW t=>⟨x,H1,⟨e,hx,hg,h13,by omega⟩,Z,u1.grow t⟩
def blkB (c:UInt8):Bool:=decide (c=32) || decide (c=9) || decide (c=10) || decide (c=13)
def skipS:Bool->Str->Str
 | _,[]=>[]
 | true,c::r=>if c=10 then skipS false r else skipS true r
 | false,c::r=>if blkB c then skipS false r else if c=47/\r.head? = some 47 then skipS true r else c::r
theorem skipS_nil (b:Bool):skipS b []=[]:=by cases b <;> rfl
variable {r:Str}
theorem skipS_com {c:UInt8} (h:¬ c=10):skipS true (c::r)=skipS true r:=by rw [skipS,Al_if_neg h]
theorem skipS_end (r:Str):skipS true (10::r)=skipS false (10::r):=by rw [skipS,Al_if_pos rfl,skipS,Al_if_pos (by decide)]
theorem skipS_blk {c:UInt8} (h:blkB c=true):skipS false (c::r)=skipS false r:=by rw [skipS,Al_if_pos h]
theorem skipS_two (r:Str):skipS false (47::47::r)=skipS true (47::47::r):=by simp [skipS,blkB]
theorem skipS_stop {c:UInt8} (h:blkB c=false) (h2:¬ (c=47/\r.head? = some 47)):skipS false (c::r)=c::r:=by rw [skipS,Al_if_neg (by simp [h]),Al_if_neg h2]
theorem skipS_suf:∀ (l:Str) (b:Bool),∃ p,l=p++skipS b l
 | [],b=>⟨[],by rw [skipS_nil];rfl⟩
 | c::r,true=>by
  rw [skipS]
  split
  ·obtain ⟨p,h⟩:=skipS_suf r false;exact ⟨c::p,by rw [Al_List_cons_append,<-h]⟩
  ·obtain ⟨p,h⟩:=skipS_suf r true;exact ⟨c::p,by rw [Al_List_cons_append,<-h]⟩
 | c::r,false=>by
  rw [skipS]
  split
  ·obtain ⟨p,h⟩:=skipS_suf r false;exact ⟨c::p,by rw [Al_List_cons_append,<-h]⟩
  ·split
   ·obtain ⟨p,h⟩:=skipS_suf r true;exact ⟨c::p,by rw [Al_List_cons_append,<-h]⟩
   ·exact ⟨[],Z⟩
theorem skipS_len (b:Bool) (l:Str):(skipS b l).length<=l.length:=by
 obtain ⟨p,h⟩:=skipS_suf l b;have:=congrArg List.length h;rw [Al_List_length_append] at this;omega
theorem skipS_drop (b:Bool) (l:Str):l.drop (l.length - (skipS b l).length)=skipS b l:=by
 obtain ⟨p,h⟩:=skipS_suf l b;generalize skipS b l=q at h;subst h;rw [show (p++q).length - q.length=p.length by rw [Al_List_length_append];omega,List.drop_left]
theorem readK_bnd {l:Str} (h:l≠[]):1<=(readK l).2/\(readK l).2<=l.length:=by
 match l,h with
 | c::r,_ =>
  have hp:∀ q:UInt8->Bool,q c=true->1<=pre q (c::r):=λq hq=>by unfold pre;rw [Al_List_takeWhile_cons,hq];simp
  cases h1:letB c with
  | true =>
   have h2:=hp insB (by simp [insB,h1]);have h3:=pre_le insB (c::r);cases h4:words.contains ((c::r).take (pre insB (c::r))) with
   | true=>simp only [readK,Al_List_headD_cons,h1,h4,Al_if_true];exact ⟨h2,h3⟩
   | false =>
    by_cases h5:pre insB (c::r)<=12
    ·simp only [readK,Al_List_headD_cons,h1,h4,h5,Al_if_true,Al_Bool_false_eq_true,Al_if_false];exact ⟨h2,h3⟩
    ·simp only [readK,Al_List_headD_cons,h1,h4,h5,Al_if_true,Al_Bool_false_eq_true,Al_if_false];simp
  | false =>
   cases h4:digB c with
   | true =>
    have h2:=hp digB h4;have h3:=pre_le digB (c::r)
    by_cases h5:pre digB (c::r)=1\/c≠48
    ·simp only [readK,Al_List_headD_cons,h1,h4,h5,Al_if_true,Al_Bool_false_eq_true,Al_if_false];exact ⟨h2,h3⟩
    ·simp only [readK,Al_List_headD_cons,h1,h4,h5,Al_if_true,Al_Bool_false_eq_true,Al_if_false];simp
   | false =>
    cases hx:symbols.find? (λx=>x.isPrefixOf (c::r)) with
    | none=>simp only [readK,Al_List_headD_cons,h1,h4,hx,Al_Bool_false_eq_true,Al_if_false];simp
    | some x =>
     have hm:=List.mem_of_find?_eq_some hx;have hpx:=List.find?_some hx
     have hl:x.length<=(c::r).length:=by
      obtain ⟨t,ht⟩:=Al_List_isPrefixOf_iff_prefix.1 hpx;rw [<-ht];simp
     have key:∀ y∈symbols,1<=y.length:=by decide
     simp only [readK,Al_List_headD_cons,h1,h4,hx,Al_Bool_false_eq_true,Al_if_false];exact ⟨key x hm,hl⟩
theorem readK_one {c:UInt8} (h:(readK (c::r)).1=1):letB c=true:=by
 cases h1:letB c with
 | true=>rfl
 | false =>
  cases h4:digB c with
  | true =>
   by_cases h5:pre digB (c::r)=1\/c≠48
   ·simp only [readK,Al_List_headD_cons,h1,h4,h5,Al_if_true,Al_Bool_false_eq_true,Al_if_false] at h;simp at h
   ·simp only [readK,Al_List_headD_cons,h1,h4,h5,Al_if_true,Al_Bool_false_eq_true,Al_if_false] at h;simp at h
  | false =>
   cases hx:symbols.find? (λx=>x.isPrefixOf (c::r)) <;> simp only [readK,Al_List_headD_cons,h1,h4,hx,Al_Bool_false_eq_true,Al_if_false] at h <;> simp at h
structure Tk where
 k:UInt8
 t:Str
 o:Nat
def dTk (k:IntKind) (x:Tk):D:=.str [.val (.int k x.k.toNat),.val (strV x.t),.val (iN x.o)]
def cTk (k:IntKind) (x:Tk):List Value:=[.int k x.k.toNat,strV x.t,iN x.o]
theorem tk_open {k:IntKind} {x:Tk} {cs:List Value} (h:Rep H (dTk k x) cs):cs=cTk k x/\x.t.length<=1000000:=by
 rw [dTk,repS] at h;obtain ⟨_,rfl,_,_,h⟩:=repL_val.1 h;obtain ⟨_,rfl,_,k0,h⟩:=repL_val.1 h;obtain ⟨_,rfl,_,_,h⟩:=repL_val.1 h;rw [repL_nil] at h;subst h;exact ⟨Z,okS.1 k0⟩
theorem tk_shut {k:IntKind} {x:Tk} (h:x.t.length<=1000000):Rep H (dTk k x) (cTk k x):=by
 rw [dTk,repS];exact repL_val.2 ⟨_,Z,Z,Jt,repL_val.2 ⟨_,Z,Z,okS.2 h,repL_val.2 ⟨_,Z,Z,Jt,repL_nil.2 rfl⟩⟩⟩
def tokF:Nat->Nat->Str->List Tk
 | 0,_,_=>[]
 | f+1,o,m=>if m=[] then [] else ⟨(readK m).1,m.take (readK m).2,o⟩::tokF f (o+(m.length - (skipS false (m.drop (readK m).2)).length)) (skipS false (m.drop (readK m).2))
def lexR (s:Str):List Tk:=tokF (s.length+1) (s.length - (skipS false s).length) (skipS false s)
variable {m:Str}
theorem tokF_step {f o:Nat} (h:m≠[]):tokF (f+1) o m=⟨(readK m).1,m.take (readK m).2,o⟩::tokF f (o+(m.length - (skipS false (m.drop (readK m).2)).length)) (skipS false (m.drop (readK m).2)):=by rw [tokF,Al_if_neg h]
theorem tokF_nil (f o:Nat):tokF f o []=[]:=by cases f <;> simp [tokF]
theorem tokF_more:∀ (f g o:Nat) (m:Str),m.length<f->m.length<g->tokF f o m=tokF g o m
 | 0,_,_,_,h,_=>by omega
 | _,0,_,_,_,h=>by omega
 | f+1,g+1,o,m,h,k=>by
  by_cases h0:m=[]
  ·subst h0;rw [tokF_nil,tokF_nil]
  ·rw [tokF_step h0,tokF_step h0];have hr:=readK_bnd h0;have hs:=skipS_len false (m.drop (readK m).2);rw [Al_List_length_drop] at hs;rw [tokF_more f g _ _ (by omega) (by omega)]
theorem lex_name (s:Str):nameB s=true↔∃ o,lexR s=[⟨1,s,o⟩]:=by
 constructor
 ·intro h;simp only [nameB,Al_Bool_and_eq_true,Al_decide_eq_true_eq,Al_beq_iff_eq] at h;obtain ⟨⟨h0,h1⟩,h2⟩:=h
  match s,h0 with
  | c::r,h0 =>
   have hl:letB c=true:=readK_one h1
   have hs:skipS false (c::r)=c::r:=skipS_stop (by
    have key:∀ i∈List.range 256,letB (UInt8.ofNat i)=true->blkB (UInt8.ofNat i)=false:=by decide +kernel
    have:=key c.toNat (Al_List_mem_range.2 c.toNat_lt);rw [Al_UInt8_ofNat_toNat] at this;exact this hl) (by rintro ⟨rfl,_⟩;revert hl;decide)
   refine ⟨0,?_⟩;rw [lexR,hs,tokF_step h0,h2,Al_List_take_length,List.drop_length,skipS_nil,tokF_nil,Al_Nat_sub_self,h1]
 ·rintro ⟨o,h⟩;rw [lexR] at h
  by_cases h0:skipS false s=[]
  ·rw [h0,tokF_nil] at h;cases h
  ·rw [tokF_step h0] at h;injection h with h _
   injection h with h1 h2 h3
   have hl:=skipS_len false s;have hr:=readK_bnd h0;have h4:=congrArg List.length h2;rw [Al_List_length_take] at h4
   have h5:skipS false s=s:=by
    have:=skipS_drop false s;rw [show s.length - (skipS false s).length=0 by omega,Al_List_drop_zero] at this;exact this.symm
   rw [h5] at h0 h1 h4 hr;simp only [nameB,Al_Bool_and_eq_true,Al_decide_eq_true_eq,Al_beq_iff_eq];exact ⟨⟨h0,h1⟩,by omega⟩
inductive Rs (α:Type) where
 | ok (a:α) (r:List Tk)
 | er (r:List Tk) (code:Nat)
def Rs.bind {α β:Type} (x:Rs α) (f:α->List Tk->Rs β):Rs β:=match x with | .ok a r=>f a r | .er r c=>.er r c
def isT (w:Str):List Tk->Bool
 | []=>false
 | t::_=>(t.k == 2 || t.k == 4) && decide (t.t=w)
def needT {α:Type} (w:Str) (r:List Tk) (f:List Tk->Rs α):Rs α:=if isT w r then f r.tail else .er r 8
def nameT {α:Type} (r:List Tk) (f:Str->List Tk->Rs α):Rs α:=match r with | []=>.er r 8 | t::q=>if t.k=1 then f t.t q else .er r 8
def numV (s:Str):Nat:=s.foldl (λv c=>10 * v+(c.toNat - 48)) 0
def opsL:Nat->List (Str × UInt8)
 | 0=>[([111,114],23)]
 | 1=>[([97,110,100],22)]
 | 2=>[([61,61],16),([33,61],17),([60],18),([60,61],19),([62],20),([62,61],21)]
 | 3=>[([43],14),([45],15)]
 | _=>[([42],11),([47],12),([37],13)]
def opAt (lv:Nat) (r:List Tk):Option UInt8:=((opsL lv).find? λx=>isT x.1 r).map (·.2)
inductive Md where
 | ex (lv:Nat)
 | lp (lv:Nat) (a:Ex)
def opE (op:UInt8) (l:List Ex):Ex:=.mk op [] 0 l
def primE (rec:List Tk->Rs Ex) (r:List Tk):Rs Ex :=
 match r with
 | []=>.er r 8
 | t::q =>
  if t.k=3 then (if numV t.t<=9223372036854775807 then .ok (.mk 1 [] (Int64.ofNat (numV t.t)) []) q else .er r 2)
  else if isT [116,114,117,101] r then .ok (opE 2 []) q
  else if isT [102,97,108,115,101] r then .ok (opE 3 []) q
  else if isT [110,111,119] r then .ok (opE 4 []) q
  else if isT [115,105,122,101] r then nameT q λs r2=>.ok (.mk 8 s 0 []) r2
  else if isT [40] r then (rec q).bind λx r2=>needT [41] r2 λr3=>.ok x r3
  else if isT [104,97,115] r then nameT q λs r2=>needT [91] r2 λr3=>(rec r3).bind λx r4=>needT [93] r4 λr5=>.ok (.mk 7 s 0 [x]) r5
  else if t.k=1 then (if isT [91] q then (rec q.tail).bind λx r4=>needT [93] r4 λr5=>.ok (.mk 6 t.t 0 [x]) r5 else .ok (.mk 5 t.t 0 []) q)
  else .er r 8
def pE:Nat->Md->List Tk->Rs Ex
 | 0,_,r=>.er r 99
 | f+1,.ex lv,r =>
  if lv<5 then (pE f (.ex (lv+1)) r).bind λa r1=>pE f (.lp lv a) r1
  else if isT [45] r then (pE f (.ex 5) r.tail).bind λx r2=>.ok (opE 9 [x]) r2
  else if isT [110,111,116] r then (pE f (.ex 5) r.tail).bind λx r2=>.ok (opE 10 [x]) r2
  else primE (pE f (.ex 0)) r
 | f+1,.lp lv a,r =>
  match opAt lv r with
  | none=>.ok a r
  | some op=>(pE f (.ex (lv+1)) r.tail).bind λb r2=>if lv=2 then .ok (opE op [a,b]) r2 else pE f (.lp lv (opE op [a,b])) r2
/-! ### Enough fuel -/
theorem ifC {α:Type} {c:Prop} [Decidable c] {x y u v:α} (h1:x=u) (h2:y=v):(if c then x else y)=(if c then u else v):=by rw [h1,h2]
theorem ifI {α:Type} {c d:Prop} [Decidable c] [Decidable d] {x y:α} (h:c↔d):(if c then x else y)=(if d then x else y):=by
 by_cases e:c
 ·rw [Al_if_pos e,Al_if_pos (h.1 e)]
 ·rw [Al_if_neg e,Al_if_neg (λk=>e (h.2 k))]
variable {w:Str}
theorem isT_ne {r:List Tk} (h:isT w r=true):r.length=r.tail.length+1:=by cases r with | nil=>cases h | cons t q=>rfl
theorem opAt_ne {lv:Nat} {r:List Tk} {op:UInt8} (h:opAt lv r=some op):r.length=r.tail.length+1:=by
 unfold opAt at h;obtain ⟨x,hx,_⟩:=Al_Option_map_eq_some_iff.1 h;exact isT_ne (w:=x.1) (by have:=List.find?_some hx;exact this)
theorem Rs.bind_ok {α β:Type} {x:Rs α} {f:α->List Tk->Rs β} {b:β} {r:List Tk} (h:x.bind f=.ok b r):∃ a q,x=.ok a q/\f a q=.ok b r:=by
 cases x with
 | ok a q=>exact ⟨a,q,Z,h⟩
 | er q c=>cases h
theorem needT_ok {α:Type} {r:List Tk} {f:List Tk->Rs α} {a:α} {q:List Tk} (h:needT w r f=.ok a q):isT w r=true/\f r.tail=.ok a q:=by
 unfold needT at h
 split at h
 ·rename_i e;exact ⟨e,h⟩
 ·cases h
theorem nameT_ok {α:Type} {r:List Tk} {f:Str->List Tk->Rs α} {a:α} {q:List Tk} (h:nameT r f=.ok a q):∃ t r',r=t::r'/\t.k=1/\f t.t r'=.ok a q:=by
 unfold nameT at h;cases r with
 | nil=>cases h
 | cons t r' =>
  by_cases e:t.k=1
  ·simp only [e,Al_if_true] at h;exact ⟨t,r',Z,e,h⟩
  ·simp only [e,Al_if_false] at h;cases h
theorem primE_len {rec:List Tk->Rs Ex} (hr:∀ q a r',rec q=.ok a r'->r'.length<=q.length) {r:List Tk} {a:Ex} {r':List Tk} (h:primE rec r=.ok a r'):r'.length<r.length:=by
 unfold primE at h;cases r with
 | nil=>cases h
 | cons t q =>
  simp only at h
  have fin:∀ {b:Ex} {l:List Tk},(Rs.ok b l:Rs Ex)=.ok a r'->l.length<=q.length->r'.length<(t::q).length:=by
   intro b l e hl;injection e with _ e;subst e;simp;omega
  split at h
  ·split at h
   ·exact fin h (Al_Nat_le_refl _)
   ·cases h
  split at h
  ·exact fin h (Al_Nat_le_refl _)
  split at h
  ·exact fin h (Al_Nat_le_refl _)
  split at h
  ·exact fin h (Al_Nat_le_refl _)
  split at h
  ·obtain ⟨t2,r2,rfl,_,h⟩:=nameT_ok h;exact fin h (by simp)
  split at h
  ·obtain ⟨x,r2,h1,h⟩:=Rs.bind_ok h;obtain ⟨h2,h⟩:=needT_ok h;have:=hr _ _ _ h1;have:=isT_ne h2;exact fin h (by omega)
  split at h
  ·obtain ⟨t2,r2,rfl,_,h⟩:=nameT_ok h;obtain ⟨h2,h⟩:=needT_ok h;obtain ⟨x,r4,h1,h⟩:=Rs.bind_ok h;obtain ⟨h3,h⟩:=needT_ok h;have:=hr _ _ _ h1;have:=isT_ne h2;have:=isT_ne h3;exact fin h (by simp;omega)
  split at h
  ·split at h
   ·rename_i h2;obtain ⟨x,r4,h1,h⟩:=Rs.bind_ok h;obtain ⟨h3,h⟩:=needT_ok h;have:=hr _ _ _ h1;have:=isT_ne h2;have:=isT_ne h3;exact fin h (by omega)
   ·exact fin h (Al_Nat_le_refl _)
  ·cases h
theorem pE_len:∀ (f:Nat),(∀ lv r a r',pE f (.ex lv) r=.ok a r'->r'.length<r.length)/\(∀ lv x r a r',pE f (.lp lv x) r=.ok a r'->r'.length<=r.length)
 | 0=>⟨λ_ _ _ _ h=>(by cases h),λ_ _ _ _ _ h=>(by cases h)⟩
 | f+1=>by
  obtain ⟨ih1,ih2⟩:=pE_len f;refine ⟨λlv r a r' h=>?_,λlv x r a r' h=>?_⟩
  ·unfold pE at h
   split at h
   ·obtain ⟨b,q,h1,h2⟩:=Rs.bind_ok h;have:=ih1 _ _ _ _ h1;have:=ih2 _ _ _ _ _ h2;omega
   split at h
   ·rename_i e;obtain ⟨b,q,h1,h2⟩:=Rs.bind_ok h;have:=ih1 _ _ _ _ h1;have:=isT_ne e;injection h2 with _ e2;subst e2;omega
   split at h
   ·rename_i e;obtain ⟨b,q,h1,h2⟩:=Rs.bind_ok h;have:=ih1 _ _ _ _ h1;have:=isT_ne e;injection h2 with _ e2;subst e2;omega
   ·exact primE_len (λq b r2 e=>Al_Nat_le_of_lt (ih1 _ _ _ _ e)) h
  ·unfold pE at h
   split at h
   ·injection h with _ e;subst e;exact Al_Nat_le_refl _
   ·rename_i op e;obtain ⟨b,q,h1,h2⟩:=Rs.bind_ok h;have:=ih1 _ _ _ _ h1;have:=opAt_ne e
    split at h2
    ·injection h2 with _ e2;subst e2;omega
    ·have:=ih2 _ _ _ _ _ h2;omega
theorem Rs.bind_congr {α β:Type} {x y:Rs α} {f g:α->List Tk->Rs β} (h:x=y) (k:∀ a r,x=.ok a r->f a r=g a r):x.bind f=y.bind g:=by
 subst h;cases x with
 | ok a r=>exact k a r rfl
 | er r c=>rfl
theorem primE_congr {rec rec':List Tk->Rs Ex} {r:List Tk} (h:∀ q,q.length<r.length->rec q=rec' q):primE rec r=primE rec' r:=by
 unfold primE;cases r with
 | nil=>rfl
 | cons t q =>
  have hb:∀ (z:List Tk) (g:Ex->List Tk->Rs Ex),z.length<=q.length->(rec z).bind g=(rec' z).bind g:=λz g hz=>by rw [h z (by simp;omega)]
  have ht:∀ z:List Tk,z.tail.length<=z.length:=λz=>by simp
  simp only;rw [hb q _ (Al_Nat_le_refl _),hb q.tail _ (ht q)];refine ifC rfl (ifC rfl (ifC rfl (ifC rfl (ifC rfl (ifC rfl (ifC ?_ rfl))))));unfold nameT;cases q with
  | nil=>rfl
  | cons t2 r2 =>
   simp only;refine ifC ?_ rfl;unfold needT;refine ifC ?_ rfl;exact hb _ _ (by simp;omega)
def fuelE:Md->List Tk->Nat
 | .ex lv,r=>16 * r.length+9 - lv
 | .lp _ _,r=>16 * r.length+9
theorem pE_ex (f lv:Nat) (r:List Tk):pE (f+1) (.ex lv) r=if lv<5 then (pE f (.ex (lv+1)) r).bind λa r1=>pE f (.lp lv a) r1
 else if isT [45] r then (pE f (.ex 5) r.tail).bind λx r2=>.ok (opE 9 [x]) r2
 else if isT [110,111,116] r then (pE f (.ex 5) r.tail).bind λx r2=>.ok (opE 10 [x]) r2
 else primE (pE f (.ex 0)) r:=by rw [pE]
theorem pE_lp (f lv:Nat) (a:Ex) (r:List Tk):pE (f+1) (.lp lv a) r=match opAt lv r with
 | none=>.ok a r
 | some op=>(pE f (.ex (lv+1)) r.tail).bind λb r2=>if lv=2 then .ok (opE op [a,b]) r2 else pE f (.lp lv (opE op [a,b])) r2:=by rw [pE]
theorem pE_fuel:∀ (f:Nat),(∀ lv r,lv<=5->fuelE (.ex lv) r<=f->pE (f+1) (.ex lv) r=pE f (.ex lv) r)/\(∀ lv x r,lv<=4->fuelE (.lp lv x) r<=f->pE (f+1) (.lp lv x) r=pE f (.lp lv x) r)
 | 0=>⟨λlv r h1 h=>by simp only [fuelE] at h;omega,λlv x r h1 h=>by simp only [fuelE] at h;omega⟩
 | f+1=>by
  obtain ⟨ih1,ih2⟩:=pE_fuel f;simp only [fuelE] at ih1 ih2|-;refine ⟨λlv r h5 h=>?_,λlv x r h4 h=>?_⟩
  ·rw [pE_ex (f+1) lv r,pE_ex f lv r]
   by_cases hlv:lv<5
   ·rw [Al_if_pos hlv,Al_if_pos hlv];refine Rs.bind_congr (ih1 _ _ (by omega) (by omega)) λa q e=>?_;have:=(pE_len (f+1)).1 _ _ _ _ e;exact ih2 _ _ _ (by omega) (by omega)
   rw [Al_if_neg hlv,Al_if_neg hlv]
   by_cases e:isT [45] r=true
   ·have:=isT_ne e;rw [Al_if_pos e,Al_if_pos e];exact Rs.bind_congr (ih1 _ _ (by omega) (by omega)) λ_ _ _=>rfl
   rw [Al_if_neg e,Al_if_neg e]
   by_cases e:isT [110,111,116] r=true
   ·have:=isT_ne e;rw [Al_if_pos e,Al_if_pos e];exact Rs.bind_congr (ih1 _ _ (by omega) (by omega)) λ_ _ _=>rfl
   rw [Al_if_neg e,Al_if_neg e];exact primE_congr λq hq=>ih1 _ _ (by omega) (by omega)
  ·rw [pE_lp (f+1) lv x r,pE_lp f lv x r];cases e:opAt lv r with
   | none=>rfl
   | some op =>
    simp only;have:=opAt_ne e;refine Rs.bind_congr (ih1 _ _ (by omega) (by omega)) λa q e=>?_;have:=(pE_len (f+1)).1 _ _ _ _ e;refine ifC rfl ?_;exact ih2 _ _ _ (by omega) (by omega)
variable {g:Nat}
theorem pE_more {f lv:Nat} {r:List Tk} (h5:lv<=5) (h:fuelE (.ex lv) r<=f) (hg:f<=g):pE g (.ex lv) r=pE f (.ex lv) r:=by
 induction g with
 | zero => have : f = 0 := by omega
           rw [this]
 | succ g ih =>
  by_cases e:f=g+1
  ·rw [e]
  ·rw [(pE_fuel g).1 lv r h5 (by omega)];exact ih (by omega)
theorem pE_morel {f lv:Nat} {a:Ex} {r:List Tk} (h5:lv<=4) (h:fuelE (.lp lv a) r<=f) (hg:f<=g):pE g (.lp lv a) r=pE f (.lp lv a) r:=by
 induction g with
 | zero => have : f = 0 := by omega
           rw [this]
 | succ g ih =>
  by_cases e:f=g+1
  ·rw [e]
  ·rw [(pE_fuel g).2 lv a r h5 (by omega)];exact ih (by omega)
def pX (lv:Nat) (r:List Tk):Rs Ex:=pE (16 * r.length+9) (.ex lv) r
def pL (lv:Nat) (a:Ex) (r:List Tk):Rs Ex:=pE (16 * r.length+9) (.lp lv a) r
theorem pX_of {f lv:Nat} {r:List Tk} (h5:lv<=5) (h:fuelE (.ex lv) r<=f):pE f (.ex lv) r=pX lv r:=by
 unfold pX;rcases Nat.le_total f (16 * r.length+9) with h1 | h1
 ·rw [pE_more h5 h h1]
 ·rw [pE_more h5 (by simp only [fuelE];omega) h1]
theorem pL_of {f lv:Nat} {a:Ex} {r:List Tk} (h5:lv<=4) (h:fuelE (.lp lv a) r<=f):pE f (.lp lv a) r=pL lv a r:=by
 unfold pL;rcases Nat.le_total f (16 * r.length+9) with h1 | h1
 ·rw [pE_morel h5 h h1]
 ·rw [pE_morel h5 (by simp only [fuelE];omega) h1]
theorem pX_low {lv:Nat} {r:List Tk} (h:lv<5):pX lv r=(pX (lv+1) r).bind λa q=>pL lv a q:=by
 conv=>lhs;unfold pX
 rw [show 16 * r.length+9=(16 * r.length+8)+1 by omega,pE_ex,Al_if_pos h];refine Rs.bind_congr (pX_of (by omega) (by simp only [fuelE];omega)) λa q e=>?_;have:=(pE_len _).1 _ _ _ _ e;exact pL_of (by omega) (by simp only [fuelE];omega)
theorem pX_un {r:List Tk} :pX 5 r=if isT [45] r then (pX 5 r.tail).bind λx r2=>.ok (opE 9 [x]) r2 else if isT [110,111,116] r then (pX 5 r.tail).bind λx r2=>.ok (opE 10 [x]) r2 else primE (pX 0) r:=by
 conv=>lhs;unfold pX
 rw [show 16 * r.length+9=(16 * r.length+8)+1 by omega,pE_ex,Al_if_neg (by omega)]
 by_cases e:isT [45] r=true
 ·have:=isT_ne e;rw [Al_if_pos e,Al_if_pos e];exact Rs.bind_congr (pX_of (by omega) (by simp only [fuelE];omega)) λ_ _ _=>rfl
 rw [Al_if_neg e,Al_if_neg e]
 by_cases e:isT [110,111,116] r=true
 ·have:=isT_ne e;rw [Al_if_pos e,Al_if_pos e];exact Rs.bind_congr (pX_of (by omega) (by simp only [fuelE];omega)) λ_ _ _=>rfl
 rw [Al_if_neg e,Al_if_neg e];exact primE_congr λq hq=>pX_of (by omega) (by simp only [fuelE];omega)
theorem pL_none {lv:Nat} {a:Ex} {r:List Tk} (h:opAt lv r=none):pL lv a r=.ok a r:=by
 unfold pL;rw [show 16 * r.length+9=(16 * r.length+8)+1 by omega,pE_lp];rw [h]
theorem pL_some {lv:Nat} {a:Ex} {r:List Tk} {op:UInt8} (hl:lv<=4) (h:opAt lv r=some op):pL lv a r=(pX (lv+1) r.tail).bind λb r2=>if lv=2 then .ok (opE op [a,b]) r2 else pL lv (opE op [a,b]) r2:=by
 conv=>lhs;unfold pL
 rw [show 16 * r.length+9=(16 * r.length+8)+1 by omega,pE_lp];rw [h];have:=opAt_ne h;refine Rs.bind_congr (pX_of (by omega) (by simp only [fuelE];omega)) λb q e=>?_;have:=(pE_len _).1 _ _ _ _ e;refine ifC rfl ?_;exact pL_of hl (by simp only [fuelE];omega)
end Go.Proofs.YtidclioghdbphaaGreatDoor
namespace Go.Plain
open Go.Lib

theorem digits_more (x:Nat) (h:¬ x<10):decDigits x=decDigits (x / 10)++[UInt8.ofNat (48+x % 10)]:=by
 rw [decDigits,Al_dif_neg h]
theorem digit_nat (d:Nat) (h:d<10):(UInt8.ofNat (48+d)).toNat=48+d:=by
 rw [Al_UInt8_toNat_ofNat'];omega
theorem digits_are:∀ (u:Nat) (c:UInt8),c∈decDigits u->48<=c.toNat/\c.toNat<=57:=by
 intro u;induction u using Nat.strongRecOn with
 | _ u ih =>
  intro c hc
  by_cases h:u<10
  ·rw [decDigits_one h] at hc;obtain rfl:=Al_List_mem_singleton.1 hc;rw [digit_nat u h];omega
  ·rw [digits_more u h] at hc;rcases Al_List_mem_append.1 hc with hc | hc
   ·exact ih (u / 10) (by omega) c hc
   ·obtain rfl:=Al_List_mem_singleton.1 hc;rw [digit_nat (u % 10) (by omega)];omega
end Go.Plain
namespace Go.Proofs.YtidclioghdbphaaGreatDoor
abbrev Kt:=UInt8 × Str
def kt (t:Tk):Kt:=(t.k,t.t)
def isK (w:Str) (x:Kt):Bool:=(x.1 == 2 || x.1 == 4) && decide (x.2=w)
def opK (lv:Nat) (x:Kt):Option UInt8:=((opsL lv).find? λy=>isK y.1 x).map (·.2)
theorem isT_cons (w:Str) (t:Tk) (r:List Tk):isT w (t::r)=isK w (kt t):=rfl
theorem opAt_cons (lv:Nat) (t:Tk) (r:List Tk):opAt lv (t::r)=opK lv (kt t):=rfl
def parK (n lv:Nat) (l:List Kt):List Kt:=if lv<n then (4,[40])::(l++[(4,[41])]) else l
def symK (op:UInt8):Kt:=(if op=22\/op=23 then 2 else 4,((shapeOf op).tx.drop 1).dropLast)
def ktx (op:UInt8) (nm:Str) (n:Int64) (ls:List (Nat × List Kt)):List Kt :=
 if op=1 then [(3,Lib.itoa n.toInt)]
 else if op=5 then [(1,nm)]
 else if op=8 then [(2,[115,105,122,101]),(1,nm)]
 else if op=6 then (1,nm)::(4,[91])::((ls.getD 0 (0,[])).2++[(4,[93])])
 else if op=7 then (2,[104,97,115])::(1,nm)::(4,[91])::((ls.getD 0 (0,[])).2++[(4,[93])])
 else if op=9 then (4,[45])::parK 6 (ls.getD 0 (0,[])).1 (ls.getD 0 (0,[])).2
 else if op=10 then (2,[110,111,116])::parK 6 (ls.getD 0 (0,[])).1 (ls.getD 0 (0,[])).2
 else if (shapeOf op).n=0 then [(2,(shapeOf op).tx)]
 else parK (lftT (shapeOf op).lv) (ls.getD 0 (0,[])).1 (ls.getD 0 (0,[])).2++symK op::parK ((shapeOf op).lv+1) (ls.getD 1 (0,[])).1 (ls.getD 1 (0,[])).2
mutual
def ktE:Ex->List Kt
 | .mk op nm n args=>ktx op nm n (ktEs args)
def ktEs:List Ex->List (Nat × List Kt)
 | []=>[]
 | e::r=>((shapeOf e.op).lv,ktE e)::ktEs r
end
def Ex.lv (e:Ex):Nat:=(shapeOf e.op).lv
def Stp (j:Nat) (r:List Tk):Prop:=(∀ i,j<=i->i<=4->opAt i r=none)/\isT [91] r=false
variable {i j:Nat}
theorem Stp.up {r:List Tk} (h:Stp i r) (hij:i<=j):Stp j r:=⟨λk h1 h2=>h.1 k (by omega) h2,h.2⟩
theorem Stp.of {t:Tk} {r:List Tk} (h:∀ i∈List.range 5,j<=i->opK i (kt t)=none) (h2:isK [91] (kt t)=false):Stp j (t::r) :=
 ⟨λi h1 h3=>h i (Al_List_mem_range.2 (by omega)) h1,h2⟩
theorem pX_up {l:List Tk} {a:Ex} {r:List Tk}:∀ (d lv j:Nat),j=lv+1+d->j<=5->pX j l=.ok a r->Stp (lv+1) r->pX lv l=pL lv a r
 | 0,lv,j,e,hj,h,_=>by
  rw [pX_low (by omega),show lv+1=j by omega,h];rfl
 | d+1,lv,j,e,hj,h,hs=>by
  have:=pX_up d (lv+1) j (by omega) hj h (hs.up (by omega));rw [pX_low (by omega),this,pL_none (hs.1 _ (Al_Nat_le_refl _) (by omega))];rfl
def Rd (e:Ex):Prop:=∀ le r,le.map kt=ktE e->(∀ lv,lv<=4->lv+1<=e.lv->Stp (lv+1) r->pX lv (le++r)=if lv=2/\e.lv=3 then .ok e r else pL lv e r)/\(6<=e.lv->isT [91] r=false->pX 5 (le++r)=.ok e r)
theorem Rd.full {e:Ex} (h:Rd e) {le r:List Tk} (hk:le.map kt=ktE e) {lv:Nat} (h5:lv<=5) (hl:lv+1<=e.lv) (hs:Stp lv r):pX lv (le++r)=.ok e r:=by
 by_cases e5:lv=5
 ·subst e5;exact (h le r hk).2 hl hs.2
 ·rw [(h le r hk).1 lv (by omega) hl (hs.up (by omega)),pL_none (hs.1 lv (Al_Nat_le_refl _) (by omega))]
  split <;> rfl
theorem Rd.of {e:Ex} (h6:6<=e.lv) (h:∀ le r,le.map kt=ktE e->isT [91] r=false->pX 5 (le++r)=.ok e r):Rd e:=λle r hk=>by
 refine ⟨λlv hl h1 hs=>?_,λ_=>h le r hk⟩;rw [Al_if_neg (by omega)];exact pX_up (4 - lv) lv 5 (by omega) (by omega) (h le r hk hs.2) hs
theorem Rd.par {e:Ex} (h:Rd e) (h1:1<=e.lv) {le r:List Tk} (hk:le.map kt=(4,[40])::(ktE e++[(4,[41])])):pX 5 (le++r)=.ok e r:=by
 obtain ⟨t,l1,rfl,ht,hk⟩:=Al_List_map_eq_cons_iff.1 hk;obtain ⟨l2,l3,rfl,h2,h3⟩:=Al_List_map_eq_append_iff.1 hk;obtain ⟨t2,l4,rfl,ht2,h4⟩:=Al_List_map_eq_cons_iff.1 h3;obtain rfl:=Al_List_map_eq_nil_iff.1 h4;simp only [Al_List_cons_append,Al_List_append_assoc,Al_List_nil_append];have hf:=h.full h2 (r:=t2::r) (lv:=0) (by omega) h1 (.of (by rw [ht2];decide) (by rw [ht2];decide));rw [pX_un,isT_cons,isT_cons,ht,Al_if_neg (by decide),Al_if_neg (by decide),primE];have hk0:t.k=4:=congrArg Prod.fst ht;simp only [isT_cons,ht];rw [Al_if_neg (by rw [hk0];decide),Al_if_neg (by decide),Al_if_neg (by decide),Al_if_neg (by decide),Al_if_neg (by decide),Al_if_pos (by decide),hf];show needT [41] (t2::r) _=_;rw [needT,isT_cons,ht2,Al_if_pos (by decide)]
 rfl
variable {n:Nat}
theorem Rd.opnd {e:Ex} (h:Rd e) (h1:1<=e.lv) {le r:List Tk} (hk:le.map kt=parK n e.lv (ktE e)) (hn:n<=6) (h0:0<n) (hs:Stp (n - 1) r):pX (n - 1) (le++r)=.ok e r:=by
 unfold parK at hk
 split at hk
 ·have hp:=h.par h1 hk (r:=r)
  by_cases e5:n=6
  ·subst e5;exact hp
  ·rw [pX_up (5 - n) (n - 1) 5 (by omega) (by omega) hp (hs.up (by omega)),pL_none (hs.1 _ (Al_Nat_le_refl _) (by omega))]
 ·exact h.full hk (by omega) (by omega) hs
theorem Rd.left {e:Ex} (h:Rd e) (h1:1<=e.lv) {lv:Nat} {le r:List Tk} (hk:le.map kt=parK (lv+1) e.lv (ktE e)) (hn:lv<=4) (h2:lv≠2) (hs:Stp (lv+1) r):pX lv (le++r)=pL lv e r:=by
 unfold parK at hk
 split at hk
 ·exact pX_up (4 - lv) lv 5 (by omega) (by omega) (h.par h1 hk (r:=r)) hs
 ·rw [(h le r hk).1 lv hn (by omega) hs,Al_if_neg (by omega)]
theorem numV_digits (u:Nat):numV (Lib.decDigits u)=u:=by
 induction u using Nat.strongRecOn with
 | _ u ih =>
  by_cases h:u<10
  ·rw [Lib.decDigits_one h];simp only [numV,Al_List_foldl_cons,Al_List_foldl_nil,Plain.digit_nat u h];omega
  ·rw [Plain.digits_more u h];have:=ih (u / 10) (by omega);unfold numV at this|-;rw [Al_List_foldl_append,this];simp only [Al_List_foldl_cons,Al_List_foldl_nil,Plain.digit_nat (u % 10) (by omega)];omega
theorem numV_itoa {n:Int} (h:0<=n):numV (Lib.itoa n)=n.toNat:=by
 unfold Lib.itoa;rw [Al_if_neg (by omega),numV_digits]
theorem ok_cases {op:UInt8} (h:okOp op=true):op∈([1,2,3,4,5,6,7,8,9,10,11,12,13,14,15,16,17,18,19,20,21,22,23]:List UInt8):=by
 simp only [okOp,Al_Bool_and_eq_true,Al_decide_eq_true_eq] at h;have key:∀ i∈List.range 24,1<=i->UInt8.ofNat i∈([1,2,3,4,5,6,7,8,9,10,11,12,13,14,15,16,17,18,19,20,21,22,23]:List UInt8):=by decide
 have:=key op.toNat (Al_List_mem_range.2 (by omega)) h.1
 rwa [Al_UInt8_ofNat_toNat] at this
theorem ok_split {op:UInt8} (h:okOp op=true):op=1\/op∈([11,12,13,14,15,16,17,18,19,20,21,22,23]:List UInt8)\/(op=2\/op=3\/op=4\/op=5\/op=6\/op=7\/op=8\/op=9\/op=10):=by
 have key:∀ o∈([1,2,3,4,5,6,7,8,9,10,11,12,13,14,15,16,17,18,19,20,21,22,23]:List UInt8),o=1\/o∈([11,12,13,14,15,16,17,18,19,20,21,22,23]:List UInt8)\/(o=2\/o=3\/o=4\/o=5\/o=6\/o=7\/o=8\/o=9\/o=10):=by decide
 exact key op (ok_cases h)
theorem ok_lv {op:UInt8} (h:okOp op=true):1<=(shapeOf op).lv:=by
 have key:∀ o∈([1,2,3,4,5,6,7,8,9,10,11,12,13,14,15,16,17,18,19,20,21,22,23]:List UInt8),1<=(shapeOf o).lv:=by decide
 exact key op (ok_cases h)
theorem args0 {l:List Ex} (h:l.length=0):l=[]:=Al_List_eq_nil_of_length_eq_zero h
theorem args1 {l:List Ex} (h:l.length=1):∃ a,l=[a]:=List.length_eq_one_iff.1 h
theorem args2 {l:List Ex} (h:l.length=2):∃ a b,l=[a,b]:=by
 match l,h with
 | [a,b],_=>exact ⟨a,b,Z⟩
theorem i64_zero {n:Int64} (h:n.toInt=0):n=0:=Al_Int64_toInt_inj.1 (by rw [h];rfl)
def binOp (op:UInt8):Bool:=decide (11<=op.toNat) && decide (op.toNat<=23)
theorem bin_facts:∀ op∈([11,12,13,14,15,16,17,18,19,20,21,22,23]:List UInt8),(shapeOf op).n=2/\(shapeOf op).nm=false/\1<=(shapeOf op).lv/\(shapeOf op).lv<=5/\opK ((shapeOf op).lv - 1) (symK op)=some op/\isK [91] (symK op)=false /\
 (∀ i∈List.range 5,(shapeOf op).lv<=i->opK i (symK op)=none)/\¬ op=1/\¬ op=5/\¬ op=8/\¬ op=6/\¬ op=7/\¬ op=9/\¬ op=10:=by decide
theorem ktE_bin {op:UInt8} (h:op∈([11,12,13,14,15,16,17,18,19,20,21,22,23]:List UInt8)) (nm:Str) (n:Int64) (a b:Ex) :
 ktE (.mk op nm n [a,b])=parK (lftT (shapeOf op).lv) a.lv (ktE a)++symK op::parK ((shapeOf op).lv+1) b.lv (ktE b):=by
 obtain ⟨h1,_,_,_,_,_,_,g1,g2,g3,g4,g5,g6,g7⟩:=bin_facts op h;rw [ktE,ktx,Al_if_neg g1,Al_if_neg g2,Al_if_neg g3,Al_if_neg g4,Al_if_neg g5,Al_if_neg g6,Al_if_neg g7,Al_if_neg (by omega)]
 rfl
theorem rd_bin {op:UInt8} (h:op∈([11,12,13,14,15,16,17,18,19,20,21,22,23]:List UInt8)) {a b:Ex} (ha:Rd a) (hb:Rd b) (ha1:1<=a.lv) (hb1:1<=b.lv):Rd (opE op [a,b]):=by
 intro le r hk;obtain ⟨_,_,h3,h4,h5,h6,h7,_⟩:=bin_facts op h;have hlv:(opE op [a,b]).lv=(shapeOf op).lv:=rfl;rw [hlv];rw [show opE op [a,b]=.mk op [] 0 [a,b] from rfl,ktE_bin h] at hk;obtain ⟨la,l1,rfl,hla,hk⟩:=Al_List_map_eq_append_iff.1 hk;obtain ⟨t,lb,rfl,ht,hlb⟩:=Al_List_map_eq_cons_iff.1 hk;generalize hL:(shapeOf op).lv=L at *;refine ⟨?_,λh8=>absurd h8 (by omega)⟩;have hst:∀ q,Stp L (t::q):=λq=>.of (by rw [ht];exact h7) (by rw [ht];exact h6)
 -- at its own level
 have own:Stp L r->pX (L - 1) (la++t::lb++r)=if L - 1=2 then .ok (opE op [a,b]) r else pL (L - 1) (opE op [a,b]) r:=by
  intro hs;have hopt:∀ q,opAt (L - 1) (t::q)=some op:=λq=>by rw [opAt_cons,ht];exact h5
  have hB:pX L (lb++r)=.ok b r:=by
   have:=hb.opnd hb1 (n:=L+1) hlb (by omega) (by omega) (r:=r) (by simpa using hs);simpa using this
  have hA:pX (L - 1) (la++(t::lb++r))=pL (L - 1) a (t::lb++r):=by
   by_cases h2:L=3
   ·subst h2;have:=ha.opnd ha1 (n:=4) (r:=t::lb++r) hla (by omega) (by omega) (hst _);rw [pX_low (by omega)];show (pX 3 _).bind _=_;rw [show (4:Nat) - 1=3 from rfl] at this;rw [this];rfl
   ·have e:lftT L=L - 1+1:=by unfold lftT;rw [Al_if_neg h2];omega
    rw [e] at hla;exact ha.left ha1 hla (by omega) (by omega) (by rw [show L - 1+1=L by omega];exact hst _)
  rw [Al_List_append_assoc,hA,Al_List_cons_append,pL_some (by omega) (hopt _)];show (pX (L - 1+1) (lb++r)).bind _=_;rw [show L - 1+1=L by omega,hB]
  rfl
 intro lv hl4 hl hs
 by_cases e:lv=L - 1
 ·subst e;rw [show L - 1+1=L by omega] at hs;rw [own hs];exact ifI (by omega)
 ·rw [Al_if_neg (by omega)];refine pX_up (L - 2 - lv) lv (L - 1) (by omega) (by omega) ?_ hs;rw [own (hs.up (by omega)),pL_none (hs.1 _ (by omega) (by omega))]
  split <;> rfl
theorem ktE_one {op:UInt8} {nm:Str} {n:Int64} {args:List Ex} {x:Kt} (h:ktE (.mk op nm n args)=[x]) {le:List Tk} (hk:le.map kt=ktE (.mk op nm n args)):∃ t,le=[t]/\kt t=x:=by
 rw [h] at hk;obtain ⟨t,l,rfl,ht,hl⟩:=Al_List_map_eq_cons_iff.1 hk;obtain rfl:=Al_List_map_eq_nil_iff.1 hl;exact ⟨t,Z,ht⟩
theorem rd_un {op:UInt8} {a:Ex} (ha:Rd a) (h1:1<=a.lv) (hop:op=9\/op=10):Rd (opE op [a]):=by
 refine .of (by rcases hop with rfl | rfl <;> exact (by decide:6<=6)) λle r hk h91=>?_
 have key:∃ t l,le=t::l/\kt t=(if op=9 then (4,[45]) else (2,[110,111,116]))/\l.map kt=parK 6 a.lv (ktE a):=by
  rcases hop with rfl | rfl
  ·obtain ⟨t,l,rfl,ht,hl⟩:=Al_List_map_eq_cons_iff.1 (show le.map kt=(4,[45])::parK 6 a.lv (ktE a) from hk);exact ⟨t,l,Z,ht,hl⟩
  ·obtain ⟨t,l,rfl,ht,hl⟩:=Al_List_map_eq_cons_iff.1 (show le.map kt=(2,[110,111,116])::parK 6 a.lv (ktE a) from hk);exact ⟨t,l,Z,ht,hl⟩
 obtain ⟨t,l,rfl,ht,hl⟩:=key;have hA:pX 5 (l++r)=.ok a r:=ha.opnd h1 (n:=6) hl (by omega) (by omega) ⟨λi h1 h2=>by omega,h91⟩;rw [Al_List_cons_append,pX_un];rcases hop with rfl | rfl
 ·rw [isT_cons,ht,Al_if_pos (by decide)];show (pX 5 (l++r)).bind _=_;rw [hA];rfl
 ·rw [isT_cons,isT_cons,ht,Al_if_neg (by decide),Al_if_pos (by decide)];show (pX 5 (l++r)).bind _=_;rw [hA];rfl
theorem rd_key {a:Ex} (ha:Rd a) (h1:1<=a.lv) {l r:List Tk} (hl:l.map kt=(4,[91])::(ktE a++[(4,[93])])):isT [91] (l++r)=true/\∀ (g:Ex->List Tk->Rs Ex),((pX 0 (l++r).tail).bind λx r4=>needT [93] r4 λr5=>g x r5)=g a r:=by
 obtain ⟨t,l1,rfl,ht,hk⟩:=Al_List_map_eq_cons_iff.1 hl;obtain ⟨l2,l3,rfl,h2,h3⟩:=Al_List_map_eq_append_iff.1 hk;obtain ⟨t2,l4,rfl,ht2,h4⟩:=Al_List_map_eq_cons_iff.1 h3;obtain rfl:=Al_List_map_eq_nil_iff.1 h4;refine ⟨by rw [Al_List_cons_append,isT_cons,ht];decide,λg=>?_⟩;have hf:=ha.full h2 (r:=t2::r) (lv:=0) (by omega) h1 (.of (by rw [ht2];decide) (by rw [ht2];decide));simp only [Al_List_cons_append,Al_List_append_assoc,Al_List_nil_append,Al_List_tail_cons];rw [hf];show needT [93] (t2::r) _=_;rw [needT,isT_cons,ht2,Al_if_pos (by decide)]
 rfl
theorem rd_all (e:Ex):Ex.all frmE e=true->Rd e/\1<=e.lv:=by
 induction e using Ex.ind with
 | _ op nm n args ih =>
  intro h;rw [all_mk,Al_Bool_and_eq_true] at h;obtain ⟨hf,hr⟩:=h;have ha:∀ a∈args,Rd a/\1<=a.lv:=λa m=>ih a m (alls_mem m hr);simp only [frmE,Al_Bool_and_eq_true,Al_Bool_or_eq_true,Al_decide_eq_true_eq] at hf;obtain ⟨⟨⟨hop,hl⟩,hnm⟩,hn⟩:=hf;refine ⟨?_,ok_lv hop⟩;have hm:=ok_cases hop
  by_cases h1:op=1
  ·subst h1;obtain rfl:=args0 hl;obtain rfl:nm=[]:=hnm.resolve_left (by decide);rw [Al_if_pos rfl,Al_decide_eq_true_eq] at hn;refine .of (show 6<=(shapeOf 1).lv by decide) λle r hk _=>?_;obtain ⟨t,rfl,ht⟩:=ktE_one (x:=(3,Lib.itoa n.toInt)) rfl hk;have hk3:t.k=3:=congrArg Prod.fst ht;have ht2:t.t=Lib.itoa n.toInt:=congrArg Prod.snd ht;have hlt:=n.toInt_lt;rw [Al_List_cons_append,Al_List_nil_append,pX_un,isT_cons,isT_cons,ht,Al_if_neg (by simp [isK]),Al_if_neg (by simp [isK]),primE];rw [Al_if_pos hk3,ht2,numV_itoa hn,Al_if_pos (by omega)]
   congr 2
   exact Al_Int64_toInt_inj.1 (by rw [Al_Int64_toInt_ofNat_of_lt (by omega)];omega)
  rw [Al_if_neg h1,Al_decide_eq_true_eq] at hn;obtain rfl:=i64_zero hn
  by_cases hb:op∈([11,12,13,14,15,16,17,18,19,20,21,22,23]:List UInt8)
  ·obtain ⟨b1,b2,_⟩:=bin_facts op hb;obtain ⟨a,b,rfl⟩:=args2 (l:=args) (by omega)
   obtain rfl : nm = [] := by rcases hnm with e | e
                              ·rw [b2] at e;cases e
                              ·exact e
   have h3:=ha a (by simp);have h4:=ha b (by simp);exact rd_bin hb h3.1 h4.1 h3.2 h4.2
  have hs:op=2\/op=3\/op=4\/op=5\/op=6\/op=7\/op=8\/op=9\/op=10:=((ok_split hop).resolve_left h1).resolve_left hb
  have cst:∀ (w:Str),op=2\/op=3\/op=4->w=(shapeOf op).tx->Rd (.mk op nm 0 args):=by
   intro w ho hw
   have hnil:args=[]:=by
    rcases ho with rfl | rfl | rfl <;> exact args0 hl
   have hnm0:nm=[]:=by
    rcases ho with rfl | rfl | rfl <;> exact hnm.resolve_left (by decide)
   subst hnil hnm0;refine .of (by rcases ho with rfl | rfl | rfl <;> exact (by decide:6<=7)) λle r hk _=>?_;rcases ho with rfl | rfl | rfl
   all_goals
    obtain ⟨t,rfl,ht⟩:=ktE_one rfl hk;have hk3:t.k=2:=congrArg Prod.fst ht;rw [Al_List_cons_append,Al_List_nil_append,pX_un,isT_cons,isT_cons,ht,Al_if_neg (by decide),Al_if_neg (by decide),primE];simp only [isT_cons,ht];rw [Al_if_neg (by rw [hk3];decide)]
   ·rw [Al_if_pos (by decide)];rfl
   ·rw [Al_if_neg (by decide),Al_if_pos (by decide)];rfl
   ·rw [Al_if_neg (by decide),Al_if_neg (by decide),Al_if_pos (by decide)];rfl
  rcases hs with rfl | rfl | rfl | rfl | rfl | rfl | rfl | rfl | rfl
  ·exact cst _ (.inl Z) rfl
  ·exact cst _ (.inr (.inl Z)) rfl
  ·exact cst _ (.inr (.inr Z)) rfl
  ·obtain rfl:=args0 hl;refine .of (show 6<=(shapeOf 5).lv by decide) λle r hk h91=>?_;obtain ⟨t,rfl,ht⟩:=ktE_one (x:=(1,nm)) rfl hk;have hk1:t.k=1:=congrArg Prod.fst ht;have ht2:t.t=nm:=congrArg Prod.snd ht;have hno:∀ w,isK w (1,nm)=false:=λw=>by simp [isK]
   rw [Al_List_cons_append,Al_List_nil_append,pX_un,isT_cons,isT_cons,ht,hno,hno,Al_if_neg (by decide),Al_if_neg (by decide),primE];simp only [isT_cons,ht,hno];rw [Al_if_neg (by rw [hk1];decide)];simp only [Al_Bool_false_eq_true,Al_if_false];rw [Al_if_pos hk1,h91,Al_if_neg (by decide),ht2]
  ·obtain ⟨a,rfl⟩:=args1 hl;obtain ⟨ra,r1⟩:=ha a (by simp);refine .of (show 6<=(shapeOf 6).lv by decide) λle r hk h91=>?_;obtain ⟨t,l,rfl,ht,hl⟩:=Al_List_map_eq_cons_iff.1 (show le.map kt=(1,nm)::(4,[91])::(ktE a++[(4,[93])]) from hk);have hk1:t.k=1:=congrArg Prod.fst ht;have ht2:t.t=nm:=congrArg Prod.snd ht;have hno:∀ w,isK w (1,nm)=false:=λw=>by simp [isK]
   obtain ⟨k1,k2⟩:=rd_key ra r1 hl (r:=r);rw [Al_List_cons_append,pX_un,isT_cons,isT_cons,ht,hno,hno,Al_if_neg (by decide),Al_if_neg (by decide),primE];simp only [isT_cons,ht,hno];rw [Al_if_neg (by rw [hk1];decide)];simp only [Al_Bool_false_eq_true,Al_if_false];rw [Al_if_pos hk1,k1,Al_if_pos rfl,k2,ht2]
  ·obtain ⟨a,rfl⟩:=args1 hl;obtain ⟨ra,r1⟩:=ha a (by simp);refine .of (show 6<=(shapeOf 7).lv by decide) λle r hk h91=>?_;obtain ⟨t,l,rfl,ht,hl⟩:=Al_List_map_eq_cons_iff.1 (show le.map kt=(2,[104,97,115])::(1,nm)::(4,[91])::(ktE a++[(4,[93])]) from hk);obtain ⟨t2,l2,rfl,ht2,hl⟩:=Al_List_map_eq_cons_iff.1 hl;have hk1:t.k=2:=congrArg Prod.fst ht;have hk2:t2.k=1:=congrArg Prod.fst ht2;have ht3:t2.t=nm:=congrArg Prod.snd ht2;obtain ⟨k1,k2⟩:=rd_key ra r1 hl (r:=r);rw [Al_List_cons_append,pX_un,isT_cons,isT_cons,ht,Al_if_neg (by decide),Al_if_neg (by decide),primE];simp only [isT_cons,ht];rw [Al_if_neg (by rw [hk1];decide),Al_if_neg (by decide),Al_if_neg (by decide),Al_if_neg (by decide),Al_if_neg (by decide),Al_if_neg (by decide),Al_if_pos (by decide),Al_List_cons_append,nameT];rw [Al_if_pos hk2,needT,k1,Al_if_pos rfl,k2,ht3]
  ·obtain rfl:=args0 hl;refine .of (show 6<=(shapeOf 8).lv by decide) λle r hk h91=>?_;obtain ⟨t,l,rfl,ht,hl⟩:=Al_List_map_eq_cons_iff.1 (show le.map kt=(2,[115,105,122,101])::(1,nm)::[] from hk);obtain ⟨t2,l2,rfl,ht2,hl⟩:=Al_List_map_eq_cons_iff.1 hl;obtain rfl:=Al_List_map_eq_nil_iff.1 hl;have hk1:t.k=2:=congrArg Prod.fst ht;have hk2:t2.k=1:=congrArg Prod.fst ht2;have ht3:t2.t=nm:=congrArg Prod.snd ht2;rw [Al_List_cons_append,pX_un,isT_cons,isT_cons,ht,Al_if_neg (by decide),Al_if_neg (by decide),primE];simp only [isT_cons,ht];rw [Al_if_neg (by rw [hk1];decide),Al_if_neg (by decide),Al_if_neg (by decide),Al_if_neg (by decide),Al_if_pos (by decide),Al_List_cons_append,nameT];rw [Al_if_pos hk2,ht3];rfl
  ·obtain ⟨a,rfl⟩:=args1 hl;obtain ⟨ra,r1⟩:=ha a (by simp);obtain rfl:nm=[]:=hnm.resolve_left (by decide);exact rd_un ra r1 (.inl Z)
  ·obtain ⟨a,rfl⟩:=args1 hl;obtain ⟨ra,r1⟩:=ha a (by simp);obtain rfl:nm=[]:=hnm.resolve_left (by decide);exact rd_un ra r1 (.inr Z)
structure Tok (x:Kt) (r:Str):Prop where
 ne:x.2≠[]
 read:readK (x.2++r)=(x.1,x.2.length)
 skip:skipS false (x.2++r)=x.2++r
 k5:x.1≠5
 sh:x.2.length<=1000000
inductive Lx:Str->List Kt->Prop where
 | nil:Lx [] []
 | blk {c:UInt8} {s:Str} {k:List Kt} (h:blkB c=true) (l:Lx s k):Lx (c::s) k
 | tok {x:Kt} {s:Str} {k:List Kt} (h:Tok x s) (l:Lx s k):Lx (x.2++s) (x::k)
def sepB (r:Str):Prop:=∀ c,r.head? = some c->insB c=false/\c≠46/\c≠61/\c≠62/\c≠47
def hdB (r:Str):Prop:=∀ c,r.head? = some c->c≠46/\c≠61/\c≠62/\c≠47
variable {r:Str}
theorem sepB.hd (h:sepB r):hdB r:=λc e=>(h c e).2
theorem sepB_cons {c:UInt8} (h:insB c=false/\c≠46/\c≠61/\c≠62/\c≠47):sepB (c::r):=λd e=>by cases e;exact h
theorem hdB_cons {c:UInt8} (h:c≠46/\c≠61/\c≠62/\c≠47):hdB (c::r):=λd e=>by cases e;exact h
theorem pre_app {q:UInt8->Bool}:∀ {w r:Str},w.all q=true->(∀ c,r.head? = some c->q c=false)->pre q (w++r)=w.length
 | [],[],_,_=>rfl
 | [],c::r,_,h=>by unfold pre;rw [Al_List_nil_append,Al_List_takeWhile_cons,h c rfl];rfl
 | a::w,r,hw,h=>by
  rw [Al_List_all_cons,Al_Bool_and_eq_true] at hw;have:=pre_app hw.2 h;unfold pre at this|-;rw [Al_List_cons_append,Al_List_takeWhile_cons,hw.1];simp [this]
theorem pre_all {q:UInt8->Bool}:∀ {w:Str},pre q w=w.length->w.all q=true
 | [],_=>rfl
 | a::w,h=>by
  unfold pre at h;rw [Al_List_takeWhile_cons] at h;cases ha:q a with
  | false=>rw [ha] at h;simp at h
  | true =>
   rw [ha] at h;have:=pre_all (q:=q) (w:=w) (by unfold pre;simpa using h);rw [Al_List_all_cons,ha,this];rfl
theorem byte_key {Q:UInt8->Prop} (h:∀ i∈List.range 256,Q (UInt8.ofNat i)) (c:UInt8):Q c:=by
 have:=h c.toNat (Al_List_mem_range.2 c.toNat_lt)
 rwa [Al_UInt8_ofNat_toNat] at this
theorem let_blk (c:UInt8) (h:letB c=true):blkB c=false/\c≠47/\c≠46/\c≠61/\c≠62/\insB c=true/\digB c=false:=by
 revert h
 exact byte_key (Q:=λc=>letB c=true->blkB c=false/\c≠47/\c≠46/\c≠61/\c≠62/\insB c=true/\digB c=false) (by decide +kernel) c
theorem dig_blk (c:UInt8) (h:digB c=true):blkB c=false/\c≠47/\c≠46/\c≠61/\c≠62/\letB c=false:=by
 revert h
 exact byte_key (Q:=λc=>digB c=true->blkB c=false/\c≠47/\c≠46/\c≠61/\c≠62/\letB c=false) (by decide +kernel) c
theorem ins_dig (c:UInt8) (h:insB c=false):digB c=false:=by
 revert h
 exact byte_key (Q:=λc=>insB c=false->digB c=false) (by decide +kernel) c
theorem words_len:∀ w∈words,w.length<=12:=by decide +kernel
variable {w:Str}
theorem tok_word {k:UInt8} (h0:w≠[]) (hl:letB (w.headD 0)=true) (hw:w.all insB=true) (hk:(if words.contains w then (2:UInt8) else if w.length<=12 then 1 else 5)=k) (h5:k≠5) (hr:sepB r):Tok (k,w) r:=by
 match w,h0 with
 | c::t,h0 =>
  have hlb:=let_blk c hl;have hp:pre insB ((c::t)++r)=(c::t).length:=pre_app hw λd hd=>(hr d hd).1;refine ⟨h0,?_,?_,h5,?_⟩
  ·show readK ((c::t)++r)=(k,(c::t).length);unfold readK;simp only;rw [show ((c::t)++r).headD 0=c from rfl,show letB c=true from hl,Al_if_pos rfl,hp,Al_List_take_left]
   split at hk
   ·rename_i e;rw [Al_if_pos e,<-hk]
   ·rename_i e;rw [Al_if_neg e]
    split at hk
    ·rename_i e2;rw [Al_if_pos e2,<-hk]
    ·exact absurd hk.symm h5
  ·exact skipS_stop hlb.1 (λe=>hlb.2.1 e.1)
  ·show (c::t).length<=1000000
   split at hk
   ·rename_i e;have:=words_len _ (Al_List_contains_iff_mem.1 e);omega
   ·split at hk
    ·omega
    ·exact absurd hk.symm h5
theorem kw_facts:∀ w∈words,w≠[]/\letB (w.headD 0)=true/\w.all insB=true:=by decide +kernel
theorem tok_kw (hw:w∈words) (hr:sepB r):Tok (2,w) r:=by
 obtain ⟨h1,h2,h3⟩:=kw_facts w hw;exact tok_word h1 h2 h3 (by rw [Al_if_pos (Al_List_contains_iff_mem.2 hw)]) (by decide) hr
theorem nameB_facts (h:nameB w=true):w≠[]/\letB (w.headD 0)=true/\w.all insB=true/\words.contains w=false/\w.length<=12:=by
 have hlen:=name_len h;simp only [nameB,Al_Bool_and_eq_true,Al_decide_eq_true_eq,Al_beq_iff_eq] at h;obtain ⟨⟨h0,h1⟩,h2⟩:=h
 match w,h0 with
 | c::t,h0 =>
  have hl:=readK_one h1
  have h3:words.contains ((c::t).take (pre insB (c::t)))=false/\pre insB (c::t)=(c::t).length:=by
   unfold readK at h1 h2;simp only [Al_List_headD_cons,hl,Al_if_true] at h1 h2
   split at h1
   ·simp at h1
   ·rename_i e;rw [Al_if_neg e] at h2
    split at h1
    ·rename_i e2;rw [Al_if_pos e2] at h2;exact ⟨by simpa using e,h2⟩
    ·simp at h1
  obtain ⟨h4,h5⟩:=h3;rw [h5,Al_List_take_length] at h4;exact ⟨h0,hl,pre_all h5,h4,hlen⟩
theorem tok_name (hw:nameB w=true) (hr:sepB r):Tok (1,w) r:=by
 obtain ⟨h1,h2,h3,h4,h5⟩:=nameB_facts hw;exact tok_word h1 h2 h3 (by rw [h4,Al_if_neg (by decide),Al_if_pos h5]) (by decide) hr
theorem name_hd (hw:nameB w=true):hdB (w++r):=by
 obtain ⟨h1,h2,_⟩:=nameB_facts hw
 match w,h1 with
 | c::t,_=>have:=let_blk c h2;exact hdB_cons ⟨this.2.2.1,this.2.2.2.1,this.2.2.2.2.1,this.2.1⟩
theorem kw_hd (hw:w∈words):hdB (w++r):=by
 obtain ⟨h1,h2,_⟩:=kw_facts w hw
 match w,h1 with
 | c::t,_=>have:=let_blk c h2;exact hdB_cons ⟨this.2.2.1,this.2.2.2.1,this.2.2.2.2.1,this.2.1⟩
theorem digits_hd:∀ (u:Nat),∃ c t,Lib.decDigits u=c::t/\(t=[]\/c≠48)/\(u≠0->c≠48):=by
 intro u;induction u using Nat.strongRecOn with
 | _ u ih =>
  by_cases h:u<10
  ·rw [Lib.decDigits_one h];refine ⟨_,[],Z,.inl rfl,λhu e=>?_⟩;have:=congrArg UInt8.toNat e;rw [Plain.digit_nat u h] at this;have h48:(48:UInt8).toNat=48:=rfl;omega
  ·rw [Plain.digits_more u h];obtain ⟨c,t,e,_,h2⟩:=ih (u / 10) (by omega);rw [e];exact ⟨c,_,Z,.inr (h2 (by omega)),λ_=>h2 (by omega)⟩
theorem dec_len {u:Nat} (h:u<=9223372036854775808):(Lib.decDigits u).length<=21:=by
 have h1:=Lib.itoa_length_le (-(u:Int)) (by omega) (by omega)
 by_cases h0:u=0
 ·subst h0;decide +kernel
 ·rw [Lib.itoa,Al_if_pos (by omega),show (-(u:Int)).natAbs=u by omega,Al_List_length_cons] at h1;omega
theorem dec64 {n:Int64} :n.toInt.toNat<=9223372036854775808:=by have:=n.toInt_lt;omega
theorem tok_num {u:Nat} (hu:u<=9223372036854775808) (hr:sepB r):Tok (3,Lib.decDigits u) r:=by
 have hdl:=dec_len hu;obtain ⟨c,t,e,h2,_⟩:=digits_hd u
 have hall:(Lib.decDigits u).all digB=true:=Al_List_all_eq_true.2 λd hd=>by
  have:=Plain.digits_are u d hd;simp only [digB,Al_Bool_and_eq_true,Al_decide_eq_true_eq];exact this
 have hp:pre digB (Lib.decDigits u++r)=(Lib.decDigits u).length:=pre_app hall λd hd=>ins_dig d (hr d hd).1;rw [e] at hall hp hdl|-;rw [Al_List_all_cons,Al_Bool_and_eq_true] at hall;have hb:=dig_blk c hall.1;refine ⟨by simp,?_,skipS_stop hb.1 (λe=>hb.2.1 e.1),(show (3:UInt8)≠5 by decide),(by show (c::t).length<=1000000;omega)⟩;show readK ((c::t)++r)=(3,(c::t).length);unfold readK;simp only;rw [show ((c::t)++r).headD 0=c from rfl,hb.2.2.2.2.2,Al_if_neg (by decide),hall.1,Al_if_pos rfl,hp];refine Al_if_pos ?_;rcases h2 with rfl | h2
 ·exact .inl Z
 ·exact .inr h2
theorem num_hd {u:Nat} :hdB (Lib.decDigits u++r):=by
 obtain ⟨c,t,e,_⟩:=digits_hd u;have:=Plain.digits_are u c (by rw [e];simp);have hd:digB c=true:=by simp only [digB,Al_Bool_and_eq_true,Al_decide_eq_true_eq];exact this
 have hb:=dig_blk c hd;rw [e];exact hdB_cons ⟨hb.2.2.1,hb.2.2.2.1,hb.2.2.2.2.1,hb.2.1⟩
def sym1:Str:=[123,125,40,41,91,93,44,59,58,46,61,60,62,43,45,42,47,37]
theorem tok_sym {c:UInt8} (hc:c∈sym1) (hr:hdB r):Tok (4,[c]) r:=by
 have hx:∀ d,r.head? = some d->d≠46/\d≠61/\d≠62/\d≠47:=hr;refine ⟨by simp,?_,?_,(show (4:UInt8)≠5 by decide),(by show (1:Nat)<=_;omega)⟩
 ·show readK (c::r)=(4,1);have hl:letB c=false/\digB c=false:=by revert c;decide
  have hf:symbols.find? (λx=>x.isPrefixOf (c::r))=some [c]:=by
   cases r with
   | nil=>revert c;decide
   | cons d t =>
    obtain ⟨e1,e2,e3,e4⟩:=hx d rfl;have b1:((46:UInt8) == d)=false:=Al_beq_false_of_ne (Al_Ne_symm e1);have b2:((61:UInt8) == d)=false:=Al_beq_false_of_ne (Al_Ne_symm e2);have b3:((62:UInt8) == d)=false:=Al_beq_false_of_ne (Al_Ne_symm e3);simp only [sym1,Al_List_mem_cons,List.not_mem_nil,or_false] at hc
    rcases hc with rfl | rfl | rfl | rfl | rfl | rfl | rfl | rfl | rfl | rfl | rfl | rfl | rfl | rfl | rfl | rfl | rfl | rfl <;>
     simp [symbols,List.find?,List.isPrefixOf,b1,b2,b3]
  unfold readK;simp only [Al_List_headD_cons,hl.1,hl.2,hf,Al_Bool_false_eq_true,Al_if_false,Al_List_length_singleton]
 ·refine skipS_stop (by revert c;decide) ?_;rintro ⟨_,h⟩;exact (hx 47 h).2.2.2 rfl
def sym2:List Str:=[[61,61],[33,61],[60,61],[62,61],[45,62]]
theorem tok_two (hw:w∈sym2):Tok (4,w) r:=by
 simp only [sym2,Al_List_mem_cons,List.not_mem_nil,or_false] at hw;rcases hw with rfl | rfl | rfl | rfl | rfl <;> refine ⟨by simp,?_,?_,(show (4:UInt8)≠5 by decide),(by show (2:Nat)<=_;omega)⟩ <;> simp [readK,letB,digB,symbols,List.find?,List.isPrefixOf,skipS,blkB]
theorem sp_sep:sepB (32::r):=sepB_cons (by decide)
theorem cl_sep:sepB (41::r):=sepB_cons (by decide)
theorem br_sep:sepB (91::r):=sepB_cons (by decide)
theorem bk_sep:sepB (93::r):=sepB_cons (by decide)
theorem Lx.sp {k:List Kt} (h:Lx r k):Lx (32::r) k:=.blk (by decide) h
theorem Lx.sy {c:UInt8} {k:List Kt} (hc:c∈sym1) (hr:hdB r) (h:Lx r k):Lx (c::r) ((4,[c])::k):=.tok (x:=(4,[c])) (tok_sym hc hr) h
theorem Lx.kw {k:List Kt} (hw:w∈words) (hr:sepB r) (h:Lx r k):Lx (w++r) ((2,w)::k):=.tok (x:=(2,w)) (tok_kw hw hr) h
theorem Lx.nm {k:List Kt} (hw:nameB w=true) (hr:sepB r) (h:Lx r k):Lx (w++r) ((1,w)::k):=.tok (x:=(1,w)) (tok_name hw hr) h
theorem Lx.nu {u:Nat} {k:List Kt} (hu:u<=9223372036854775808) (hr:sepB r) (h:Lx r k):Lx (Lib.decDigits u++r) ((3,Lib.decDigits u)::k):=.tok (x:=(3,Lib.decDigits u)) (tok_num hu hr) h
def LxE (e:Ex):Prop:=∀ r ks,sepB r->Lx r ks->Lx (e.text++r) (ktE e++ks)/\hdB (e.text++r)
theorem LxE.opnd {e:Ex} (h:LxE e) (n:Nat) {ks:List Kt} (hr:sepB r) (hk:Lx r ks):Lx (opT n (e.lv,e.text)++r) (parK n e.lv (ktE e)++ks)/\hdB (opT n (e.lv,e.text)++r):=by
 unfold opT parK;simp only
 split
 ·simp only [Al_List_cons_append,Al_List_nil_append,Al_List_append_assoc];obtain ⟨h1,h2⟩:=h (41::r) ((4,[41])::ks) cl_sep (.sy (by decide) hr.hd hk);exact ⟨.sy (by decide) h2 h1,hdB_cons (by decide)⟩
 ·exact h r ks hr hk
theorem bin_tx:∀ op∈([11,12,13,14,15,16,17,18,19,20,21,22,23]:List UInt8),(shapeOf op).tx=32::((symK op).2++[32])/\(((symK op).1=2/\(symK op).2∈words)\/((symK op).1=4/\((symK op).2∈sym2\/∃ c∈sym1,(symK op).2=[c]))):=by decide +kernel
theorem Lx.bin {op:UInt8} (h:op∈([11,12,13,14,15,16,17,18,19,20,21,22,23]:List UInt8)) {k:List Kt} (hk:Lx r k):Lx ((shapeOf op).tx++r) (symK op::k):=by
 obtain ⟨h1,h2⟩:=bin_tx op h;rw [h1];simp only [Al_List_cons_append,Al_List_append_assoc,Al_List_nil_append];refine .sp ?_;have hs:=hk.sp;refine .tok (x:=symK op) ?_ hs;generalize symK op=x at h2;obtain ⟨k,w⟩:=x;rcases h2 with ⟨e,hw⟩ | ⟨e,hw | ⟨c,hc,hw⟩⟩
 ·obtain rfl:k=2:=e;exact tok_kw hw sp_sep
 ·obtain rfl:k=4:=e;exact tok_two hw
 ·obtain rfl:k=4:=e;obtain rfl:w=[c]:=hw;exact tok_sym hc sp_sep.hd
theorem lx_all (e:Ex):Ex.all frmE e=true->Ex.all namE e=true->LxE e:=by
 induction e using Ex.ind with
 | _ op nm n args ih =>
  intro h hq;rw [all_mk,Al_Bool_and_eq_true] at h hq;obtain ⟨hf,hr⟩:=h;obtain ⟨hg,hq⟩:=hq;have ha:∀ a∈args,LxE a:=λa m=>ih a m (alls_mem m hr) (alls_mem m hq);simp only [frmE,Al_Bool_and_eq_true,Al_Bool_or_eq_true,Al_decide_eq_true_eq] at hf;simp only [namE,Al_Bool_or_eq_true,Al_Bool_not_eq_true'] at hg;obtain ⟨⟨⟨hop,hl⟩,hnm⟩,hn⟩:=hf;have hm:=ok_cases hop;intro r ks hs hk
  by_cases h1:op=1
  ·subst h1;rw [Al_if_pos rfl,Al_decide_eq_true_eq] at hn
   have e1:Ex.text (.mk 1 nm n args)=Lib.decDigits n.toInt.toNat:=by
    rw [Ex.text,txt,Al_if_pos rfl,Lib.itoa,Al_if_neg (by omega)]
   have e2:ktE (.mk 1 nm n args)=[(3,Lib.decDigits n.toInt.toNat)]:=by
    rw [ktE,ktx,Al_if_pos rfl,Lib.itoa,Al_if_neg (by omega)]
   rw [e1,e2];exact ⟨.nu dec64 hs hk,num_hd⟩
  rw [Al_if_neg h1,Al_decide_eq_true_eq] at hn;obtain rfl:=i64_zero hn
  by_cases hb:op∈([11,12,13,14,15,16,17,18,19,20,21,22,23]:List UInt8)
  ·obtain ⟨b1,_,_,_,_,_,_,g1,g2,g3,g4,g5,g6,g7⟩:=bin_facts op hb;obtain ⟨a,b,rfl⟩:=args2 (l:=args) (by omega)
   have e1:Ex.text (.mk op nm 0 [a,b])=opT (lftT (shapeOf op).lv) (a.lv,a.text)++(shapeOf op).tx++opT ((shapeOf op).lv+1) (b.lv,b.text):=by
    rw [Ex.text,txt,Al_if_neg g1,Al_if_neg (by simp [g2,g3]),Al_if_neg (by simp [g4,g5]),Al_if_neg (by simp [g6,g7]),Al_if_neg (by omega)]
    rfl
   rw [e1,ktE_bin hb];simp only [Al_List_append_assoc,Al_List_cons_append];obtain ⟨k1,_⟩:=(ha b (by simp)).opnd ((shapeOf op).lv+1) hs hk;have k2:=Lx.bin hb k1;refine (ha a (by simp)).opnd (lftT (shapeOf op).lv) ?_ k2;rw [(bin_tx op hb).1];exact sp_sep
  have hs9:op=2\/op=3\/op=4\/op=5\/op=6\/op=7\/op=8\/op=9\/op=10:=((ok_split hop).resolve_left h1).resolve_left hb
  have key:∀ a,LxE a->Lx (91::(a.text++93::r)) ((4,[91])::(ktE a++(4,[93])::ks)):=by
   intro a hA;obtain ⟨k1,k2⟩:=hA (93::r) ((4,[93])::ks) bk_sep (.sy (by decide) hs.hd hk);exact .sy (by decide) k2 k1
  have hn5:(shapeOf op).nm=true->nameB nm=true:=λe=>hg.resolve_left (by rw [e];decide);rcases hs9 with rfl | rfl | rfl | rfl | rfl | rfl | rfl | rfl | rfl
  ·exact ⟨Lx.kw (w:=[116,114,117,101]) (by decide) hs hk,kw_hd (w:=[116,114,117,101]) (by decide)⟩
  ·exact ⟨Lx.kw (w:=[102,97,108,115,101]) (by decide) hs hk,kw_hd (w:=[102,97,108,115,101]) (by decide)⟩
  ·exact ⟨Lx.kw (w:=[110,111,119]) (by decide) hs hk,kw_hd (w:=[110,111,119]) (by decide)⟩
  ·exact ⟨Lx.nm (hn5 rfl) hs hk,name_hd (hn5 rfl)⟩
  ·obtain ⟨a,rfl⟩:=args1 hl;have e1:Ex.text (.mk 6 nm 0 [a])++r=nm++91::(a.text++93::r):=by rw [text_mk];simp [txt,shapeOf,okOp,shapes]
   have e2:ktE (.mk 6 nm 0 [a])++ks=(1,nm)::(4,[91])::(ktE a++(4,[93])::ks):=by
    rw [show ktE (.mk 6 nm 0 [a])=(1,nm)::(4,[91])::(ktE a++[(4,[93])]) from rfl];simp
   rw [e1,e2];exact ⟨.nm (hn5 rfl) br_sep (key a (ha a (by simp))),name_hd (hn5 rfl)⟩
  ·obtain ⟨a,rfl⟩:=args1 hl;have e1:Ex.text (.mk 7 nm 0 [a])++r=[104,97,115]++32::(nm++91::(a.text++93::r)):=by rw [text_mk];simp [txt,shapeOf,okOp,shapes]
   have e2:ktE (.mk 7 nm 0 [a])++ks=(2,[104,97,115])::(1,nm)::(4,[91])::(ktE a++(4,[93])::ks):=by
    rw [show ktE (.mk 7 nm 0 [a])=(2,[104,97,115])::(1,nm)::(4,[91])::(ktE a++[(4,[93])]) from rfl];simp
   rw [e1,e2];exact ⟨.kw (by decide) sp_sep (.sp (.nm (hn5 rfl) br_sep (key a (ha a (by simp))))),kw_hd (by decide)⟩
  ·obtain rfl:=args0 hl;have e1:Ex.text (.mk 8 nm 0 [])++r=[115,105,122,101]++32::(nm++r):=by rw [text_mk];simp [txt,shapeOf,okOp,shapes]
   rw [e1];exact ⟨.kw (by decide) sp_sep (.sp (.nm (hn5 rfl) hs hk)),kw_hd (by decide)⟩
  ·obtain ⟨a,rfl⟩:=args1 hl;obtain ⟨k1,k2⟩:=(ha a (by simp)).opnd 6 hs hk;have e1:Ex.text (.mk 9 nm 0 [a])++r=45::(opT 6 (a.lv,a.text)++r):=by rw [text_mk];rfl
   rw [e1];exact ⟨.sy (by decide) k2 k1,hdB_cons (by decide)⟩
  ·obtain ⟨a,rfl⟩:=args1 hl;obtain ⟨k1,k2⟩:=(ha a (by simp)).opnd 6 hs hk;have e1:Ex.text (.mk 10 nm 0 [a])++r=[110,111,116]++32::(opT 6 (a.lv,a.text)++r):=by rw [text_mk];rfl
   rw [e1];exact ⟨.kw (by decide) sp_sep (.sp k1),kw_hd (by decide)⟩
end Go.Proofs.YtidclioghdbphaaGreatDoor
namespace Go.Proofs.YtidclioghdbphaaGreatDoor
open Go.RowKit Go.Par Go.Sx Tryz
theorem misBs_any:∀ l,misBs l=l.any misB
 | []=>rfl
 | e::r=>by rw [misBs,List.any_cons,misBs_any r]
theorem termBs_all:∀ l,termBs l=l.all termB
 | []=>rfl
 | e::r=>by rw [termBs,Al_List_all_cons,termBs_all r]
theorem misB_mk (op:UInt8) (nm:Str) (n:Int64) (args:List Ex):misB (.mk op nm n args)=((decide (op=5) && !bothB nm && !nameB nm) || ((decide (op=6) || decide (op=8)) && !bothB nm) || args.any misB):=by rw [misB,misBs_any]
def deepB (f:Fm):Bool:=f.ex.any λe=>decide (9<e.depth) || (decide (8<e.depth) && !decide (f.op=3))
theorem deep_shal (f:Fm):deepB f=!shalB f:=by
 unfold deepB shalB;rw [Bool.not_not]
 congr 1
 funext e
 by_cases h:f.op=3
 ·rw [Al_if_pos h,Al_decide_eq_true h];simp
 ·rw [Al_if_neg h,Al_decide_eq_false h];rw [Al_Bool_eq_iff_iff];simp;omega
def tnB (op:UInt8) (nm:Str):Bool :=
 if op=5\/op=6\/op=8 then (match splitF nm with | some (a,b)=>nameB a && nameB b | none=>decide (op=5) && nameB nm) else true
theorem nins46:∀ {l:Str},l.all insB=true->splitF l=none
 | [],_=>rfl
 | c::r,h=>by
  rw [Al_List_all_cons,Al_Bool_and_eq_true] at h
  have hc:¬ c=46:=by
   rintro rfl;exact absurd h.1 (by decide)
  rw [splitF,Al_if_neg hc,nins46 h.2];rfl
theorem name_split {n:Str} (h:nameB n=true):splitF n=none:=nins46 (nameB_facts h).2.2.1
theorem tn_mis (op:UInt8) (nm:Str):((decide (op=5) && !bothB nm && !nameB nm) || ((decide (op=6) || decide (op=8)) && !bothB nm))=!tnB op nm:=by
 unfold tnB bothB
 by_cases h5:op=5
 ·subst h5;rw [Al_if_pos (.inl Z)];cases hs:splitF nm with
  | none=>simp
  | some x =>
   have hn:nameB nm=false:=by
    cases h:nameB nm with
    | false=>rfl
    | true=>rw [name_split h] at hs;cases hs
   rw [hn];simp
 ·by_cases h6:op=6\/op=8
  ·rw [Al_if_pos (.inr h6)];have e:(decide (op=6) || decide (op=8))=true:=by rcases h6 with rfl | rfl <;> decide
   rw [e,Al_decide_eq_false h5];cases hs:splitF nm with
   | none=>simp
   | some x=>simp
  ·have e:(decide (op=6) || decide (op=8))=false:=by
    simp only [Al_not_or] at h6;rw [Al_decide_eq_false h6.1,Al_decide_eq_false h6.2];rfl
   rw [Al_if_neg (by rintro (h | h | h);exact h5 h;exact h6 (.inl h);exact h6 (.inr h)),e,Al_decide_eq_false h5];rfl
def fdN (op:UInt8):Bool:=(decide (4<=op.toNat) && decide (op.toNat<=7)) || (decide (16<=op.toNat) && decide (op.toNat<=18))
def fdF (op:UInt8):Bool:=decide (op=4) || decide (op=5) || decide (op=7)
theorem op_cases {q:UInt8->Prop} [DecidablePred q] (h:∀ i∈List.range 256,q (UInt8.ofNat i)) (op:UInt8):q op:=by
 have:=h op.toNat (Al_List_mem_range.2 op.toNat_lt)
 rwa [Al_UInt8_ofNat_toNat] at this
theorem fs_nm (op:UInt8):(fsOf op).nm=fdN op:=op_cases (q:=λop=>(fsOf op).nm=fdN op) (by decide +kernel) op
theorem fs_fd (op:UInt8):(fsOf op).fd=fdF op:=op_cases (q:=λop=>(fsOf op).fd=fdF op) (by decide +kernel) op
def trmB (op:UInt8) (nm:Str) (n:Int64) (k:Nat):Bool :=
 (decide (op=1) || decide (op=4) || decide (op=5) || decide (op=6) || decide (op=8) || decide (op=9) || (decide (11<=op.toNat) && decide (op.toNat<=15))) && decide (arR op.toNat=(k:Nat)) && (decide (op=1) || decide (n=0)) && decide (0<=n.toInt) && (decide (nm=[]) || decide (op=5) || decide (op=6) || decide (op=8))
def opsR (op:UInt8):Int:=if op.toNat<1\/18<op.toNat then -1 else if op.toNat<=7 then 0 else if (9<=op.toNat/\op.toNat<=11)\/op.toNat=15 then 2 else 1
theorem fs_ops (op:UInt8):(¬ (fsOf op).lv=0/\opsR op=((fsOf op).ar:Nat))\/((fsOf op).lv=0/\opsR op=-1):=op_cases (q:=λop=>(¬ (fsOf op).lv=0/\opsR op=((fsOf op).ar:Nat))\/((fsOf op).lv=0/\opsR op=-1)) (by decide +kernel) op
variable {k n:Nat}
theorem decLn {m:Int} (h:m=(k:Nat)):decide (m=(n:Nat))=decide (n=k):=by
 rw [h,Al_Bool_eq_iff_iff,Al_decide_eq_true_eq,Al_decide_eq_true_eq];omega
theorem term_rec (op:UInt8) (nm:Str) (n:Int64) (args:List Ex):termB (.mk op nm n args)=(trmB op nm n args.length && args.all termB):=by
 rw [termB,termBs_all];unfold trmB
 have r1:decide (n=0)=true->decide (0<=n.toInt)=true:=by
  intro h;rw [Al_decide_eq_true_eq] at h;subst h
  decide
 have r2:decide (args.length=0)=true->args.all termB=true:=by
  intro h;rw [Al_decide_eq_true_eq] at h;rw [Al_List_eq_nil_of_length_eq_zero h];rfl
 generalize args.all termB=z at r2|-;generalize decide (0<=n.toInt)=c at r1|-;generalize decide (n=0)=b at r1|-;generalize decide (nm=[])=a
 by_cases h1:op=1
 ·subst h1;rw [decLn (k:=0) (by decide)];generalize decide (args.length=0)=d at r2|-;simp only [Al_if_true]
  revert a b c d z;decide
 by_cases h4:op=4
 ·subst h4;rw [decLn (k:=0) (by decide)];generalize decide (args.length=0)=d at r2|-;simp only [Al_if_neg (show ¬ (4:UInt8)=1 by decide),Al_if_true]
  revert a b c d z;decide
 by_cases h5:op=5\/op=8
 ·rw [Al_if_neg h1,Al_if_neg h4,Al_if_pos h5];have e:arR op.toNat=0:=by rcases h5 with rfl | rfl <;> decide
  rw [decLn (k:=0) (by rw [e];rfl)];generalize decide (args.length=0)=d at r2|-;rcases h5 with rfl | rfl <;> (revert a b c d z;decide)
 by_cases h6:op=6
 ·subst h6;rw [decLn (k:=1) (by decide)];generalize decide (args.length=1)=d;clear r2;simp only [Al_if_neg (show ¬ (6:UInt8)=1 by decide),Al_if_neg (show ¬ (6:UInt8)=4 by decide),Al_if_neg (show ¬ ((6:UInt8)=5\/(6:UInt8)=8) by decide),Al_if_true]
  revert a b c d z;decide
 by_cases h9:op=9
 ·subst h9;rw [decLn (k:=1) (by decide)];generalize decide (args.length=1)=d;clear r2;simp only [Al_if_neg (show ¬ (9:UInt8)=1 by decide),Al_if_neg (show ¬ (9:UInt8)=4 by decide),Al_if_neg (show ¬ ((9:UInt8)=5\/(9:UInt8)=8) by decide),Al_if_neg (show ¬ (9:UInt8)=6 by decide),Al_if_true]
  revert a b c d z;decide
 rw [Al_if_neg h1,Al_if_neg h4,Al_if_neg h5,Al_if_neg h6,Al_if_neg h9];clear r2
 by_cases hb:op=11\/op=12\/op=13\/op=14\/op=15
 ·rw [Al_if_pos hb];have e:arR op.toNat=2:=by rcases hb with rfl | rfl | rfl | rfl | rfl <;> decide
  rw [decLn (k:=2) (by rw [e];rfl)];generalize decide (args.length=2)=d;rcases hb with rfl | rfl | rfl | rfl | rfl <;> (revert a b c d z;decide)
 ·rw [Al_if_neg hb]
  have e:(decide (op=1) || decide (op=4) || decide (op=5) || decide (op=6) || decide (op=8) || decide (op=9) || (decide (11<=op.toNat) && decide (op.toNat<=15)))=false:=by
   have:=op_cases (q:=λop=>op=1\/op=4\/(op=5\/op=8)\/op=6\/op=9\/(op=11\/op=12\/op=13\/op=14\/op=15)\/(decide (op=1) || decide (op=4) || decide (op=5) || decide (op=6) || decide (op=8) || decide (op=9) || (decide (11<=op.toNat) && decide (op.toNat<=15)))=false) (by decide +kernel) op;rcases this with h | h | h | h | h | h | h
   ·exact absurd h h1
   ·exact absurd h h4
   ·exact absurd h h5
   ·exact absurd h h6
   ·exact absurd h h9
   ·exact absurd h hb
   ·exact h
  rw [e];rfl
structure Nf where
 op:UInt8
 nm:UInt8
 fd:UInt8
 ct:UInt8
 odd:Bool
 a:Int64
 b:Int64
 ts:List Nd
def dNf (x:Nf):D:=.str [.val (.int .u8 x.op.toNat),.val (.int .u8 x.nm.toNat),.val (.int .u8 x.fd.toNat),.val (.int .u8 x.ct.toNat),.val (.bool x.odd),.val (.int .i64 x.a.toInt),.val (.int .i64 x.b.toInt),.seq 5 (x.ts.map dNd)]
def cNf (x:Nf) (s:Value):List Value:=[.int .u8 x.op.toNat,.int .u8 x.nm.toNat,.int .u8 x.fd.toNat,.int .u8 x.ct.toNat,.bool x.odd,.int .i64 x.a.toInt,.int .i64 x.b.toInt,s]
variable {H:Hp}
theorem nf_open {x:Nf} {cs:List Value} (h:Rep H (dNf x) cs):∃ p c,cs=cNf x (.slice p x.ts.length c)/\Rep H (.seq 5 (x.ts.map dNd)) [.slice p x.ts.length c]:=by
 rw [dNf,repS] at h;obtain ⟨_,rfl,_,_,h⟩:=repL_val.1 h;obtain ⟨_,rfl,_,_,h⟩:=repL_val.1 h;obtain ⟨_,rfl,_,_,h⟩:=repL_val.1 h;obtain ⟨_,rfl,_,_,h⟩:=repL_val.1 h;obtain ⟨_,rfl,_,_,h⟩:=repL_val.1 h;obtain ⟨_,rfl,_,_,h⟩:=repL_val.1 h;obtain ⟨_,rfl,_,_,h⟩:=repL_val.1 h;obtain ⟨p,c,_,rfl,hs,h⟩:=repL_seq.1 h;rw [repL_nil] at h;subst h;rw [Al_List_length_map] at hs;exact ⟨p,c,by rw [Al_List_length_map];rfl,hs⟩
def pr1 (op:UInt8):UInt8:=if op=7\/op=10 then 9 else op
def pr2 (op:UInt8):UInt8:=if op=2\/op=3 then 4 else op
def pr3 (op:UInt8):UInt8:=if 16<=op.toNat then UInt8.ofNat (11+op.toNat % 5) else op
def prO (op:UInt8):UInt8:=pr3 (pr2 (pr1 op))
def prM (op:UInt8) (nm:Str):Str:=if op=7\/op=10 then [] else nm
def prN (op:UInt8) (nm:Str):Str:=if op=6\/op=8\/(op=5/\nm.length % 2=0) then [99,46]++nm else nm
mutual
def prE:Ex->Ex
 | .mk op nm n args=>.mk (prO op) (prN (prO op) (prM op nm)) n (prEs args)
def prEs:List Ex->List Ex
 | []=>[]
 | e::r=>prE e::prEs r
end
theorem prEs_map:∀ l,prEs l=l.map prE
 | []=>rfl
 | e::r=>by rw [prEs,prEs_map r];rfl
theorem prE_mk (op:UInt8) (nm:Str) (n:Int64) (args:List Ex):prE (.mk op nm n args)=.mk (prO op) (prN (prO op) (prM op nm)) n (args.map prE):=by rw [prE,prEs_map]
theorem prM_len (op:UInt8) (nm:Str):(prM op nm).length<=nm.length:=by
 unfold prM
 split
 ·exact Al_Nat_zero_le _
 ·exact Al_Nat_le_refl _
theorem prN_len (op:UInt8) (nm:Str):(prN op nm).length<=nm.length+2:=by
 unfold prN
 split
 ·rw [Al_List_length_append];show 2+_<=_;omega
 ·omega
theorem prE_count (e:Ex):(prE e).count=e.count:=by
 induction e using Ex.ind with | _ op nm n args ih
 rw [prE_mk,ex_count,ex_count]
 congr 1
 induction args with
 | nil=>rfl
 | cons a r ih2=>rw [Al_List_map_cons,Ex.counts,Ex.counts,ih a (Al_List_mem_cons_self ..),ih2 λx hx=>ih x (Al_List_mem_cons_of_mem _ hx)]
theorem prE_depth (e:Ex):(prE e).depth=e.depth:=by
 induction e using Ex.ind with | _ op nm n args ih
 rw [prE_mk,depth_mk,depth_mk]
 congr 1
 induction args with
 | nil=>rfl
 | cons a r ih2=>rw [Al_List_map_cons,Ex.deeps,Ex.deeps,ih a (Al_List_mem_cons_self ..),ih2 λx hx=>ih x (Al_List_mem_cons_of_mem _ hx)]
theorem prE_narrow (e:Ex):Ex.all narrow (prE e)=Ex.all narrow e:=by
 induction e using Ex.ind with | _ op nm n args ih
 rw [prE_mk,all_mk,all_mk,narrow_mk,narrow_mk,Al_List_length_map,alls_allE,alls_allE]
 congr 1
 rw [Al_Bool_eq_iff_iff,Al_List_all_eq_true,Al_List_all_eq_true]
 constructor
 ·intro h x hx;rw [<-ih x hx];exact h _ (Al_List_mem_map.2 ⟨x,hx,Z⟩)
 ·intro h x hx;obtain ⟨y,hy,rfl⟩:=Al_List_mem_map.1 hx;rw [ih y hy];exact h y hy
def gdE (e:Ex):Bool:=decide (e.depth<=34) && Ex.all narrow e
def gdN (f:Fm):Bool:=decide (f.op.toNat<=18) && decide (f.ex.length<=4) && decide (f.args.length<=3) && f.ex.all gdE
def gdF (f:Fm):Bool:=Fm.all gdN f
variable {a:Int64}
theorem gdF_mk {op:UInt8} {nm fd:Str} {b:Int64} {ex:List Ex} {args:List Fm} :gdF (.mk op nm fd a b ex args)=true↔(op.toNat<=18/\ex.length<=4/\args.length<=3/\∀ e∈ex,gdE e=true)/\∀ g∈args,gdF g=true:=by
 unfold gdF;rw [fm_allL,Al_Bool_and_eq_true,Al_List_all_eq_true];unfold gdN;rw [Al_Bool_and_eq_true,Al_Bool_and_eq_true,Al_Bool_and_eq_true,Al_decide_eq_true_eq,Al_decide_eq_true_eq,Al_decide_eq_true_eq,Al_List_all_eq_true];exact ⟨λh=>⟨⟨h.1.1.1.1,h.1.1.1.2,h.1.1.2,h.1.2⟩,h.2⟩,λh=>⟨⟨⟨⟨h.1.1,h.1.2.1⟩,h.1.2.2.1⟩,h.1.2.2.2⟩,h.2⟩⟩
theorem Fx.call129:callN prg 129=true:=by kernel_rfl
theorem ex_is (e:Ex):∃ o m n a,e=.mk o m n a:=by
 obtain ⟨o,m,n,a⟩:=e;exact ⟨o,m,n,a,Z⟩
variable {m:Str}
theorem pr1a {o:UInt8} (h:((o.toNat:Nat):Int)=7):((9:UInt8),([]:Str))=(pr1 o,prM o m):=by unfold pr1 prM;rw [Al_if_pos (.inl (Al_UInt8_toNat_inj.1 (by show o.toNat=7;omega):o=7)),Al_if_pos (.inl (Al_UInt8_toNat_inj.1 (by show o.toNat=7;omega):o=7))]
theorem pr1b {o:UInt8} (h:((o.toNat:Nat):Int)=10):((9:UInt8),([]:Str))=(pr1 o,prM o m):=by unfold pr1 prM;rw [Al_if_pos (.inr (Al_UInt8_toNat_inj.1 (by show o.toNat=10;omega):o=10)),Al_if_pos (.inr (Al_UInt8_toNat_inj.1 (by show o.toNat=10;omega):o=10))]
theorem pr1f {o:UInt8} (h:¬ ((o.toNat:Nat):Int)=7) (k:¬ ((o.toNat:Nat):Int)=10):(o,m)=(pr1 o,prM o m):=by unfold pr1 prM;rw [Al_if_neg (Al_not_or.2 ⟨(λe:o=7=>h (by rw [e];rfl)),(λe:o=10=>k (by rw [e];rfl))⟩),Al_if_neg (Al_not_or.2 ⟨(λe:o=7=>h (by rw [e];rfl)),(λe:o=10=>k (by rw [e];rfl))⟩)]
theorem pr2a {o:UInt8} (h:((o.toNat:Nat):Int)=2):((4:UInt8),m)=(pr2 o,m):=by unfold pr2;rw [Al_if_pos (.inl (Al_UInt8_toNat_inj.1 (by show o.toNat=2;omega):o=2))]
theorem pr2b {o:UInt8} (h:((o.toNat:Nat):Int)=3):((4:UInt8),m)=(pr2 o,m):=by unfold pr2;rw [Al_if_pos (.inr (Al_UInt8_toNat_inj.1 (by show o.toNat=3;omega):o=3))]
theorem pr2f {o:UInt8} (h:¬ ((o.toNat:Nat):Int)=2) (k:¬ ((o.toNat:Nat):Int)=3):(o,m)=(pr2 o,m):=by unfold pr2;rw [Al_if_neg (Al_not_or.2 ⟨(λe:o=2=>h (by rw [e];rfl)),(λe:o=3=>k (by rw [e];rfl))⟩)]
theorem pr3t {op:UInt8} (h:(16:Int)<=(((pr2 (pr1 op)).toNat:Nat):Int)):(UInt8.ofNat (11+(pr2 (pr1 op)).toNat % 5),m)=(prO op,m):=by unfold prO pr3;rw [Al_if_pos (by omega)]
theorem pr3f {op:UInt8} (h:¬ (16:Int)<=(((pr2 (pr1 op)).toNat:Nat):Int)):(pr2 (pr1 op),m)=(prO op,m):=by unfold prO pr3;rw [Al_if_neg (by omega)]
theorem pr4a {o:UInt8} (h:((o.toNat:Nat):Int)=6):(o,([99,46]:Str)++m)=(o,prN o m):=by unfold prN;rw [Al_if_pos (.inl (Al_UInt8_toNat_inj.1 (by show o.toNat=6;omega):o=6))]
theorem pr4b {o:UInt8} (h:((o.toNat:Nat):Int)=8):(o,([99,46]:Str)++m)=(o,prN o m):=by unfold prN;rw [Al_if_pos (.inr (.inl (Al_UInt8_toNat_inj.1 (by show o.toNat=8;omega):o=8)))]
theorem pr4c {o:UInt8} (h:((o.toNat:Nat):Int)=5) (k:((m.length % 2:Nat):Int)=0):(o,([99,46]:Str)++m)=(o,prN o m):=by unfold prN;rw [Al_if_pos (.inr (.inr ⟨(Al_UInt8_toNat_inj.1 (by show o.toNat=5;omega):o=5),by omega⟩))]
theorem pr4f {o:UInt8} (h:¬ ((o.toNat:Nat):Int)=6) (h8:¬ ((o.toNat:Nat):Int)=8) (k:¬ ((m.length % 2:Nat):Int)=0):(o,m)=(o,prN o m):=by unfold prN;rw [Al_if_neg (by rintro (e | e | e);exact h (by rw [e];rfl);exact h8 (by rw [e];rfl);omega)]
theorem pr4g {o:UInt8} (h:¬ ((o.toNat:Nat):Int)=6) (h8:¬ ((o.toNat:Nat):Int)=8) (k:¬ ((o.toNat:Nat):Int)=5):(o,m)=(o,prN o m):=by unfold prN;rw [Al_if_neg (by rintro (e | e | e);exact h (by rw [e];rfl);exact h8 (by rw [e];rfl);exact k (by rw [e.1];rfl))]
theorem pr_add (n:Nat):IntKind.i64.wrap (11+((n % 5:Nat):Int))=(((UInt8.ofNat (11+n % 5)).toNat:Nat):Int):=by
 rw [Al_UInt8_toNat_ofNat_of_lt' (by show 11+n % 5<256;omega)];exact (w6 (by omega)).trans (by omega)
def PairsOf (e:Ex):Prop:=Ex.all n13 e=true->Ex.all narrow e=true->∀ (H:Hp) (cs:List Value) (w:World),Rep H (dEx .i64 e) cs->Agr H w ->
 Calls prg 129 #[.agg cs.toArray] w λr w'=>∃ x H',Rep H' (dEx .i64 (prE e)) x/\r=.returned (.agg x.toArray)/\Grow H w H' w'
theorem pairs_any (e:Ex):PairsOf e:=by
 induction e using Ex.ind with | _ op nm nn args ih
 intro hn hw H cs w h hA;rw [all_mk,Al_Bool_and_eq_true] at hn hw;have hn3:args.length<=3:=Al_of_decide_eq_true hw.1;have hn13:nm.length<=13:=Al_of_decide_eq_true hn.1;have hpm:=prM_len op nm;have hpn:=prN_len (prO op) (prM op nm);obtain ⟨p,c,rfl,hs,hnm⟩:=ex_open h;have hcap:=hs.cap;refine Sx.enter (H:=H) func129 rfl ntmps129 rfl hA ?_;refine .sr<|.bx Z Z Z λb1=>.al Fx.zero83 Z λb2=>.nt<|.cu (X:=UInt8 × Str) [(1,_),(2,_)] ⟨Z,Z,Jt⟩ (λz=>[]) (λz=>H) (λz=>[.box b1 [.int .i64 (z.1).toNat,strV (z.2),.int .i64 nn.toInt,.slice p args.length c] 83,.box b2 [.int .i64 0,.string ⟨#[]⟩,.int .i64 0,.slice none 0 0] 83]) (λz=>z=(pr1 op,prM op nm)) ?_ λz hC=>?_
 ·
  refine .sr<|.fA Z Fx.field83_0<|.lD Z Fx.agg3 mem1 Z<|.yw (.eql Z Z)<|.mv Z<|.e2 (λh9=>?_) (λh9=>?_)
  ·exact .gG<|.gG<|.gG<|.yw (.pickT Z Z)<|.nt<|.cT Z<|.sr<|.fA Z Fx.field83_0<|.st upd1 Z Z Fx.size3 Z (nb Z) Z<|.nt<|.rg<|.fA Z Fx.field83_1<|.st upd1 Z Z Fx.size9 Z (nb Z) Z<|.nt<|.me (9,([]:Str)) trivial ⟨Z,Z,Jt⟩ (λ_ s=>s.pick [1,0] [_,_] Z Z) (pr1a h9)
  refine .gy (.fieldAddr Z Fx.field83_0)<|.gy (.load Z Fx.agg3 mem1 Z)<|.gy (.eql Z Z)<|.yw (.pickF Z Z)<|.nt<|.ce Z (λh13=>?_) (λh13=>?_)
  ·exact .sr<|.fA Z Fx.field83_0<|.st upd1 Z Z Fx.size3 Z (nb Z) Z<|.nt<|.rg<|.fA Z Fx.field83_1<|.st upd1 Z Z Fx.size9 Z (nb Z) Z<|.nt<|.me (9,([]:Str)) trivial ⟨Z,Z,Jt⟩ (λ_ s=>s.pick [1,0] [_,_] Z Z) (pr1b h13)
  exact .sk<|.tN<|.me (op,nm) trivial ⟨Z,Z,Jt⟩ (λ_ s=>s.pick [1,0] [_,_] Z Z) (pr1f h9 h13)
 subst hC;dsimp only;refine .cu (X:=UInt8 × Str) [(1,_),(2,_)] ⟨Z,Z,Jt⟩ (λz=>[]) (λz=>H) (λz=>[.box b1 [.int .i64 (z.1).toNat,strV (z.2),.int .i64 nn.toInt,.slice p args.length c] 83,.box b2 [.int .i64 0,.string ⟨#[]⟩,.int .i64 0,.slice none 0 0] 83]) (λz=>z=(pr2 (pr1 op),prM op nm)) ?_ λz hC=>?_
 ·
  refine .sr<|.fA Z Fx.field83_0<|.lD Z Fx.agg3 Hm Z<|.yw (.eql Z Z)<|.mv Z<|.e2 (λh19=>?_) (λh19=>?_)
  ·exact .gG<|.gG<|.gG<|.yw (.pickT Z Z)<|.nt<|.cT Z<|.rg<|.fA Z Fx.field83_0<|.st .head Z Z Fx.size3 Z (nb Z) Z<|.nt<|.me (4,prM op nm) trivial ⟨Z,Z,Jt⟩ (λ_ s=>s) (pr2a h19)
  refine .gy (.fieldAddr Z Fx.field83_0)<|.gy (.load Z Fx.agg3 Hm Z)<|.gy (.eql Z Z)<|.yw (.pickF Z Z)<|.nt<|.ce Z (λh23=>?_) (λh23=>?_)
  ·exact .rg<|.fA Z Fx.field83_0<|.st .head Z Z Fx.size3 Z (nb Z) Z<|.nt<|.me (4,prM op nm) trivial ⟨Z,Z,Jt⟩ (λ_ s=>s) (pr2b h23)
  exact .sk<|.tN<|.me (pr1 op,prM op nm) trivial ⟨Z,Z,Jt⟩ (λ_ s=>s) (pr2f h19 h23)
 subst hC;dsimp only;refine .cu (X:=UInt8 × Str) [(1,_),(2,_)] ⟨Z,Z,Jt⟩ (λz=>[]) (λz=>H) (λz=>[.box b1 [.int .i64 (z.1).toNat,strV (z.2),.int .i64 nn.toInt,.slice p args.length c] 83,.box b2 [.int .i64 0,.string ⟨#[]⟩,.int .i64 0,.slice none 0 0] 83]) (λz=>z=(prO op,prM op nm)) ?_ λz hC=>?_
 ·
  refine .sr<|.fA Z Fx.field83_0<|.lD Z Fx.agg3 Hm Z<|.yw (.geq Z Z)<|.nt<|.ce Z (λh27=>?_) (λh27=>?_)
  ·exact .rg<|.fA Z Fx.field83_0<|.lD Z Fx.agg3 Hm Z<|.yw (.rem Z Z (by decide) (c:=(((pr2 (pr1 op)).toNat % 5:Nat):Int)) (by rw [Al_Int_tmod_eq_emod_of_nonneg (by omega)];omega))<|.yw (.add Z Z (c:=(((UInt8.ofNat (11+(pr2 (pr1 op)).toNat % 5)).toNat:Nat):Int)) (pr_add _))<|.fA Z Fx.field83_0<|.st .head Z Z Fx.size3 Z (nb Z) Z<|.nt<|.me (UInt8.ofNat (11+(pr2 (pr1 op)).toNat % 5),prM op nm) trivial ⟨Z,Z,Jt⟩ (λ_ s=>s) (pr3t h27)
  exact .sk<|.tN<|.me (pr2 (pr1 op),prM op nm) trivial ⟨Z,Z,Jt⟩ (λ_ s=>s) (pr3f h27)
 subst hC;dsimp only;refine .cu (X:=UInt8 × Str) [(1,_),(2,_)] ⟨Z,Z,Jt⟩ (λz=>[]) (λz=>H) (λz=>[.box b1 [.int .i64 (z.1).toNat,strV (z.2),.int .i64 nn.toInt,.slice p args.length c] 83,.box b2 [.int .i64 0,.string ⟨#[]⟩,.int .i64 0,.slice none 0 0] 83]) (λz=>z=(prO op,prN (prO op) (prM op nm))) ?_ λz hC=>?_
 ·
  refine .sr<|.fA Z Fx.field83_0<|.lD Z Fx.agg3 Hm Z<|.yw (.eql Z Z)<|.mv Z<|.e2 (λh36=>?_) (λh36=>?_)
  ·exact .gG<|.gG<|.gG<|.yw (.pickT Z Z)<|.mv Z<|.gG<|.gG<|.gG<|.gG<|.gV<|.gV<|.gV<|.gV<|.gV<|.gG<|.yw (.pickT Z Z)<|.nt<|.cT Z<|.rg<|.fA Z Fx.field83_1<|.lD Z Fx.agg9 Hm Z<|.yw (.app Z Z (by simp only [Al_List_length_cons,Al_List_length_nil];omega))<|.fA Z Fx.field83_1<|.st .head Z Z Fx.size9 Z (nb Z) Z<|.nt<|.me (prO op,([99,46]:Str)++prM op nm) trivial ⟨Z,Z,Jt⟩ (λ_ s=>s) (pr4a h36)
  refine .gy (.fieldAddr Z Fx.field83_0)<|.gy (.load Z Fx.agg3 Hm Z)<|.gy (.eql Z Z)<|.yw (.pickF Z Z)<|.mv Z<|.e2 (λh41=>?_) (λh41=>?_)
  ·exact .gG<|.gG<|.gG<|.gG<|.gV<|.gV<|.gV<|.gV<|.gV<|.gG<|.yw (.pickT Z Z)<|.nt<|.cT Z<|.rg<|.fA Z Fx.field83_1<|.lD Z Fx.agg9 Hm Z<|.yw (.app Z Z (by simp only [Al_List_length_cons,Al_List_length_nil];omega))<|.fA Z Fx.field83_1<|.st .head Z Z Fx.size9 Z (nb Z) Z<|.nt<|.me (prO op,([99,46]:Str)++prM op nm) trivial ⟨Z,Z,Jt⟩ (λ_ s=>s) (pr4b h41)
  refine .gy (.fieldAddr Z Fx.field83_0)<|.gy (.load Z Fx.agg3 Hm Z)<|.gy (.eql Z Z)<|.gy (.move Z)<|.e2 (λh45=>?_) (λh45=>?_)
  ·refine .gy (.fieldAddr Z Fx.field83_1)<|.gy (.load Z Fx.agg9 Hm Z)<|.gy (.lenS Fx.str9 Z)<|.gy (.rem Z Z (by decide) (c:=(((prM op nm).length % 2:Nat):Int)) (by rw [Al_Int_tmod_eq_emod_of_nonneg (by omega)];omega))<|.gy (.eql Z Z)<|.gy (.pickT Z Z)<|.yw (.pickF Z Z)<|.nt<|.ce Z (λh52=>?_) (λh52=>?_)
   ·exact .rg<|.fA Z Fx.field83_1<|.lD Z Fx.agg9 Hm Z<|.yw (.app Z Z (by simp only [Al_List_length_cons,Al_List_length_nil];omega))<|.fA Z Fx.field83_1<|.st .head Z Z Fx.size9 Z (nb Z) Z<|.nt<|.me (prO op,([99,46]:Str)++prM op nm) trivial ⟨Z,Z,Jt⟩ (λ_ s=>s) (pr4c h45 h52)
   exact .sk<|.tN<|.me (prO op,prM op nm) trivial ⟨Z,Z,Jt⟩ (λ_ s=>s) (pr4f h36 h41 h52)
  exact .gG<|.gG<|.gG<|.gG<|.gG<|.gy (.pickF Z Z)<|.yw (.pickF Z Z)<|.nt<|.cF Z<|.sk<|.tN<|.me (prO op,prM op nm) trivial ⟨Z,Z,Jt⟩ (λ_ s=>s) (pr4g h36 h41 h45)
 subst hC;dsimp only;refine .sr<|.aq Z<|.sq<|.sq<|?_
 refine Sx.row0 83 4 ?_;refine .rg<|.fA Z Fx.field83_3<|.lD Z Fx.agg24 mem1 Z<|.yw (.lenSl Fx.sl24 Z)<|.mv Z<|.nt<|.bk<|.lp (X:=Nat × Hp × Value × List Value) [(1,_),(2,_),(58,_),(59,_)] ⟨Z,Z,Z,Z,Jt⟩ [_,_] (λz=>[(3,z.2.2.1),(60,iN z.1)]) (λz=>z.2.1) (λz=>[.row 83 4 z.2.2.1 z.1 z.2.2.2]) (λz=>z.1<=args.length/\HUp w H z.2.1/\RepZ z.2.1 4 (((args.take z.1).map prE).map (dEx .i64)) z.2.2.2) (λz=>args.length - z.1) (0,H,.slice none 0 0,[]) (λ_ s=>s) ⟨Z,Z,Jt⟩ ⟨by simp,.refl,RepZ.nil⟩ λz hC=>?_
 obtain ⟨k,H1,r,xs⟩:=z;dsimp only at hC|-;obtain ⟨hk0,u1,hz⟩:=hC;refine .sr<|.yw (.lss Z Z)<|.nt<|.sq<|.ce Z (λh61=>?_) (λh61=>?_)
 ·have hk:k<args.length:=by omega
  obtain ⟨bE,oE,cE,hpE,rE,lE,mE⟩:=(hs.up u1.up).elem (map_at (f:=dEx .i64) hk);cases hpE;have hn1:=lalls_at hk hn.2;have hw1:=lalls_at hk hw.2;refine .sk<|.tN<|.sq<|.bk<|.sr<|.yw (.indexSl Fx.sl24 Z Z Z (by omega) (q:=oE+k * 4) Z)<|.yw (.loadMW Z Fx.agg83 mE lE)<|.al Fx.zero83 Z λb5=>.sV .head Z Z Fx.size83 lE rE.one Z<|.nt<|.rg<|.mv Z<|.yw (.loadW Z Fx.agg83 Hm lE)<|.ct (X:=List Value) Fx.call129 Z (λW s=>ih _ (Al_List_getElem_mem hk) hn1 hw1 H1 cE W rE s.agr) Z λx2 H2 hc2 u2=>?_
  obtain ⟨op2,nm2,n2,args2,hx⟩:∃ o m n a,prE args[k]=.mk o m n a:=ex_is _;rw [hx] at hc2;obtain ⟨p2,c2,rfl,hs2,hnm2⟩:=ex_open hc2;exact .bl Z (Fx.bsl24_1 _ _ _ _) Z λb67=>.ap (news:=[.int .i64 op2.toNat,strV nm2,.int .i64 n2.toInt,.slice p2 args2.length c2]) Fx.row24 Z (λ_=>upd2) Z (.box Hm z0) Z (by simp [Value.oneCell',strV]) (by simp [maxLen];omega) (by omega) Z λr68 _=>.a Z Z<|.nl<|.bN<|.tN<|.rg<|.yw (.add Z Z w7)<|.mv Z<|.nt<|.ag (x:=(k,H1,r,xs)) (k+1,H2,r68,xs++[.int .i64 op2.toNat,strV nm2,.int .i64 n2.toInt,.slice p2 args2.length c2]) ⟨Z,Z,Jt⟩ ⟨Z,Z,Z,Z,Jt⟩ (λ_ s=>(s.pick [2,3,4] _ Z Z)) ⟨by dsimp only;omega,u1.trans u2,by dsimp only;rw [take_snoc hk,Al_List_map_append,Al_List_map_append,Al_List_map_cons,Al_List_map_cons,hx];exact (hz.up u2.up).snoc hc2 Z⟩ (by dsimp only;omega)
 obtain rfl:k=args.length:=by omega
 rw [Al_List_take_length] at hz;refine At.ra Hm λp26 c26 e26=>?_;subst e26;refine .ex<|.eb<|.sm Z<|.fA Z Fx.field83_3<|.st upd1 Z Z Fx.size24 Z (nb Z) Z<|.ns<|.yw (.loadW Z Fx.agg83 mem1 Z)<|.sX upd2 Z Z Fx.size83 Z<|.nt<|.rt<|?_
 refine At.pm [0,2] [_,_] rfl rfl ?_;refine freezeSeq (ds:=(args.map prE).map (dEx .i64)) (by simp) hz λH3 p3 c3 u3 hr3 hs3=>?_;refine y8 Z (.cell Z Fx.agg83 Hm rfl) λW s=>⟨_,H3,by rw [prE_mk];exact ex_shut (by omega) hs3,Z,(u1.trans u3).grow s⟩
def rfN (k:Nat):Bool:=(decide (4<=k) && decide (k<=7)) || (decide (16<=k) && decide (k<=18))
def rfF (k:Nat):Bool:=decide (k=4) || decide (k=5) || decide (k=7)
theorem tup2 {a b c d:Bool} (h1:a=c) (h2:b=d):Ending.returned (.tuple #[.bool a,.bool b])=.returned (.tuple #[.bool c,.bool d]):=by rw [h1,h2]
theorem fields_any (H:Hp) (k:Nat) (w:World) (hA:Agr H w):Calls prg 82 #[iN k] w λr w'=>r=.returned (.tuple #[.bool (rfN k),.bool (rfF k)])/\Ext w w':=by
 refine Sx.enter (H:=H) func82 rfl ntmps82 rfl hA ?_;refine .sr<|.a Z Z<|.a Z Z<|.ns<|.mv Z<|.yw (.geq Z Z)<|.mv Z<|.e2 (λh6=>?_) (λh6=>?_)
 ·refine .gy (.move Z)<|.gy (.leq Z Z)<|.yw (.pickT Z Z)<|.mv Z<|.e2 (λh10=>?_) (λh10=>?_)
  ·refine .gG<|.gG<|.gG<|.gV<|.gV<|.gG<|.yw (.pickT Z Z)<|.mv Z<|.yw (.eql Z Z)<|.mv Z<|.b2 (λh20=>?_) (λh20=>?_)
   ·try simp only [dt] at h20
    refine .gG<|.gG<|.yw (.pickT Z Z)<|.mv Z<|.gG<|.gG<|.yw (.pickT Z Z)<|.a Z Z<|.az Z<|?_
    refine y7 Z (.cons (.tmp Z) (.cons (.tmp Z) .nil)) rfl λW s=>⟨tup2 (by unfold rfN;rw [Al_Bool_eq_iff_iff];(try simp only [Al_Bool_or_eq_true,Al_Bool_and_eq_true,Al_decide_eq_true_eq,reduceCtorEq,Al_true_iff,Al_false_iff,Al_iff_true,Al_iff_false,Al_Bool_true_eq_false,Al_Bool_false_eq_true]);omega) (by unfold rfF;rw [Al_Bool_eq_iff_iff];(try simp only [Al_Bool_or_eq_true,Al_Bool_and_eq_true,Al_decide_eq_true_eq,reduceCtorEq,Al_true_iff,Al_false_iff,Al_iff_true,Al_iff_false,Al_Bool_true_eq_false,Al_Bool_false_eq_true]);omega),s.ext⟩
   try simp only [df] at h20
   refine .gy (.move Z)<|.gy (.eql Z Z)<|.yw (.pickF Z Z)<|.mv Z<|.b2 (λh24=>?_) (λh24=>?_)
   ·try simp only [dt] at h24
    refine .gG<|.gG<|.yw (.pickT Z Z)<|.a Z Z<|.az Z<|?_
    refine y7 Z (.cons (.tmp Z) (.cons (.tmp Z) .nil)) rfl λW s=>⟨tup2 (by unfold rfN;rw [Al_Bool_eq_iff_iff];(try simp only [Al_Bool_or_eq_true,Al_Bool_and_eq_true,Al_decide_eq_true_eq,reduceCtorEq,Al_true_iff,Al_false_iff,Al_iff_true,Al_iff_false,Al_Bool_true_eq_false,Al_Bool_false_eq_true]);omega) (by unfold rfF;rw [Al_Bool_eq_iff_iff];(try simp only [Al_Bool_or_eq_true,Al_Bool_and_eq_true,Al_decide_eq_true_eq,reduceCtorEq,Al_true_iff,Al_false_iff,Al_iff_true,Al_iff_false,Al_Bool_true_eq_false,Al_Bool_false_eq_true]);omega),s.ext⟩
   try simp only [df] at h24
   refine .gy (.move Z)<|.gy (.eql Z Z)<|.yw (.pickF Z Z)<|.a Z Z<|.az Z<|?_
   refine y7 Z (.cons (.tmp Z) (.cons (.tmp Z) .nil)) rfl λW s=>⟨tup2 (by unfold rfN;rw [Al_Bool_eq_iff_iff];(try simp only [Al_Bool_or_eq_true,Al_Bool_and_eq_true,Al_decide_eq_true_eq,reduceCtorEq,Al_true_iff,Al_false_iff,Al_iff_true,Al_iff_false,Al_Bool_true_eq_false,Al_Bool_false_eq_true]);omega) (by unfold rfF;rw [Al_Bool_eq_iff_iff];(try simp only [Al_Bool_or_eq_true,Al_Bool_and_eq_true,Al_decide_eq_true_eq,reduceCtorEq,Al_true_iff,Al_false_iff,Al_iff_true,Al_iff_false,Al_Bool_true_eq_false,Al_Bool_false_eq_true]);omega),s.ext⟩
  refine .gy (.move Z)<|.gy (.geq Z Z)<|.gy (.move Z)<|.b2 (λh13=>?_) (λh13=>?_)
  ·try simp only [dt] at h13
   refine .gy (.move Z)<|.gy (.leq Z Z)<|.gy (.pickT Z Z)<|.yw (.pickF Z Z)<|.mv Z<|.yw (.eql Z Z)<|.mv Z<|.b2 (λh20=>?_) (λh20=>?_)
   ·try simp only [dt] at h20
    refine .gG<|.gG<|.yw (.pickT Z Z)<|.mv Z<|.gG<|.gG<|.yw (.pickT Z Z)<|.a Z Z<|.az Z<|?_
    refine y7 Z (.cons (.tmp Z) (.cons (.tmp Z) .nil)) rfl λW s=>⟨tup2 (by unfold rfN;rw [Al_Bool_eq_iff_iff];(try simp only [Al_Bool_or_eq_true,Al_Bool_and_eq_true,Al_decide_eq_true_eq,reduceCtorEq,Al_true_iff,Al_false_iff,Al_iff_true,Al_iff_false,Al_Bool_true_eq_false,Al_Bool_false_eq_true]);omega) (by unfold rfF;rw [Al_Bool_eq_iff_iff];(try simp only [Al_Bool_or_eq_true,Al_Bool_and_eq_true,Al_decide_eq_true_eq,reduceCtorEq,Al_true_iff,Al_false_iff,Al_iff_true,Al_iff_false,Al_Bool_true_eq_false,Al_Bool_false_eq_true]);omega),s.ext⟩
   try simp only [df] at h20
   refine .gy (.move Z)<|.gy (.eql Z Z)<|.yw (.pickF Z Z)<|.mv Z<|.b2 (λh24=>?_) (λh24=>?_)
   ·try simp only [dt] at h24
    refine .gG<|.gG<|.yw (.pickT Z Z)<|.a Z Z<|.az Z<|?_
    refine y7 Z (.cons (.tmp Z) (.cons (.tmp Z) .nil)) rfl λW s=>⟨tup2 (by unfold rfN;rw [Al_Bool_eq_iff_iff];(try simp only [Al_Bool_or_eq_true,Al_Bool_and_eq_true,Al_decide_eq_true_eq,reduceCtorEq,Al_true_iff,Al_false_iff,Al_iff_true,Al_iff_false,Al_Bool_true_eq_false,Al_Bool_false_eq_true]);omega) (by unfold rfF;rw [Al_Bool_eq_iff_iff];(try simp only [Al_Bool_or_eq_true,Al_Bool_and_eq_true,Al_decide_eq_true_eq,reduceCtorEq,Al_true_iff,Al_false_iff,Al_iff_true,Al_iff_false,Al_Bool_true_eq_false,Al_Bool_false_eq_true]);omega),s.ext⟩
   try simp only [df] at h24
   refine .gy (.move Z)<|.gy (.eql Z Z)<|.yw (.pickF Z Z)<|.a Z Z<|.az Z<|?_
   refine y7 Z (.cons (.tmp Z) (.cons (.tmp Z) .nil)) rfl λW s=>⟨tup2 (by unfold rfN;rw [Al_Bool_eq_iff_iff];(try simp only [Al_Bool_or_eq_true,Al_Bool_and_eq_true,Al_decide_eq_true_eq,reduceCtorEq,Al_true_iff,Al_false_iff,Al_iff_true,Al_iff_false,Al_Bool_true_eq_false,Al_Bool_false_eq_true]);omega) (by unfold rfF;rw [Al_Bool_eq_iff_iff];(try simp only [Al_Bool_or_eq_true,Al_Bool_and_eq_true,Al_decide_eq_true_eq,reduceCtorEq,Al_true_iff,Al_false_iff,Al_iff_true,Al_iff_false,Al_Bool_true_eq_false,Al_Bool_false_eq_true]);omega),s.ext⟩
  try simp only [df] at h13
  refine .gG<|.gG<|.gy (.pickF Z Z)<|.yw (.pickF Z Z)<|.mv Z<|.yw (.eql Z Z)<|.mv Z<|.b2 (λh20=>?_) (λh20=>?_)
  ·try simp only [dt] at h20
   refine .gG<|.gG<|.yw (.pickT Z Z)<|.mv Z<|.gG<|.gG<|.yw (.pickT Z Z)<|.a Z Z<|.az Z<|?_
   refine y7 Z (.cons (.tmp Z) (.cons (.tmp Z) .nil)) rfl λW s=>⟨tup2 (by unfold rfN;rw [Al_Bool_eq_iff_iff];(try simp only [Al_Bool_or_eq_true,Al_Bool_and_eq_true,Al_decide_eq_true_eq,reduceCtorEq,Al_true_iff,Al_false_iff,Al_iff_true,Al_iff_false,Al_Bool_true_eq_false,Al_Bool_false_eq_true]);omega) (by unfold rfF;rw [Al_Bool_eq_iff_iff];(try simp only [Al_Bool_or_eq_true,Al_Bool_and_eq_true,Al_decide_eq_true_eq,reduceCtorEq,Al_true_iff,Al_false_iff,Al_iff_true,Al_iff_false,Al_Bool_true_eq_false,Al_Bool_false_eq_true]);omega),s.ext⟩
  try simp only [df] at h20
  refine .gy (.move Z)<|.gy (.eql Z Z)<|.yw (.pickF Z Z)<|.mv Z<|.b2 (λh24=>?_) (λh24=>?_)
  ·try simp only [dt] at h24
   refine .gG<|.gG<|.yw (.pickT Z Z)<|.a Z Z<|.az Z<|?_
   refine y7 Z (.cons (.tmp Z) (.cons (.tmp Z) .nil)) rfl λW s=>⟨tup2 (by unfold rfN;rw [Al_Bool_eq_iff_iff];(try simp only [Al_Bool_or_eq_true,Al_Bool_and_eq_true,Al_decide_eq_true_eq,reduceCtorEq,Al_true_iff,Al_false_iff,Al_iff_true,Al_iff_false,Al_Bool_true_eq_false,Al_Bool_false_eq_true]);omega) (by unfold rfF;rw [Al_Bool_eq_iff_iff];(try simp only [Al_Bool_or_eq_true,Al_Bool_and_eq_true,Al_decide_eq_true_eq,reduceCtorEq,Al_true_iff,Al_false_iff,Al_iff_true,Al_iff_false,Al_Bool_true_eq_false,Al_Bool_false_eq_true]);omega),s.ext⟩
  try simp only [df] at h24
  refine .gy (.move Z)<|.gy (.eql Z Z)<|.yw (.pickF Z Z)<|.a Z Z<|.az Z<|?_
  refine y7 Z (.cons (.tmp Z) (.cons (.tmp Z) .nil)) rfl λW s=>⟨tup2 (by unfold rfN;rw [Al_Bool_eq_iff_iff];(try simp only [Al_Bool_or_eq_true,Al_Bool_and_eq_true,Al_decide_eq_true_eq,reduceCtorEq,Al_true_iff,Al_false_iff,Al_iff_true,Al_iff_false,Al_Bool_true_eq_false,Al_Bool_false_eq_true]);omega) (by unfold rfF;rw [Al_Bool_eq_iff_iff];(try simp only [Al_Bool_or_eq_true,Al_Bool_and_eq_true,Al_decide_eq_true_eq,reduceCtorEq,Al_true_iff,Al_false_iff,Al_iff_true,Al_iff_false,Al_Bool_true_eq_false,Al_Bool_false_eq_true]);omega),s.ext⟩
 refine .gG<|.gG<|.yw (.pickF Z Z)<|.mv Z<|.gy (.move Z)<|.gy (.geq Z Z)<|.gy (.move Z)<|.b2 (λh13=>?_) (λh13=>?_)
 ·try simp only [dt] at h13
  refine .gy (.move Z)<|.gy (.leq Z Z)<|.gy (.pickT Z Z)<|.yw (.pickF Z Z)<|.mv Z<|.yw (.eql Z Z)<|.mv Z<|.b2 (λh20=>?_) (λh20=>?_)
  ·try simp only [dt] at h20
   refine .gG<|.gG<|.yw (.pickT Z Z)<|.mv Z<|.gG<|.gG<|.yw (.pickT Z Z)<|.a Z Z<|.az Z<|?_
   refine y7 Z (.cons (.tmp Z) (.cons (.tmp Z) .nil)) rfl λW s=>⟨tup2 (by unfold rfN;rw [Al_Bool_eq_iff_iff];(try simp only [Al_Bool_or_eq_true,Al_Bool_and_eq_true,Al_decide_eq_true_eq,reduceCtorEq,Al_true_iff,Al_false_iff,Al_iff_true,Al_iff_false,Al_Bool_true_eq_false,Al_Bool_false_eq_true]);omega) (by unfold rfF;rw [Al_Bool_eq_iff_iff];(try simp only [Al_Bool_or_eq_true,Al_Bool_and_eq_true,Al_decide_eq_true_eq,reduceCtorEq,Al_true_iff,Al_false_iff,Al_iff_true,Al_iff_false,Al_Bool_true_eq_false,Al_Bool_false_eq_true]);omega),s.ext⟩
  try simp only [df] at h20
  refine .gy (.move Z)<|.gy (.eql Z Z)<|.yw (.pickF Z Z)<|.mv Z<|.b2 (λh24=>?_) (λh24=>?_)
  ·try simp only [dt] at h24
   refine .gG<|.gG<|.yw (.pickT Z Z)<|.a Z Z<|.az Z<|?_
   refine y7 Z (.cons (.tmp Z) (.cons (.tmp Z) .nil)) rfl λW s=>⟨tup2 (by unfold rfN;rw [Al_Bool_eq_iff_iff];(try simp only [Al_Bool_or_eq_true,Al_Bool_and_eq_true,Al_decide_eq_true_eq,reduceCtorEq,Al_true_iff,Al_false_iff,Al_iff_true,Al_iff_false,Al_Bool_true_eq_false,Al_Bool_false_eq_true]);omega) (by unfold rfF;rw [Al_Bool_eq_iff_iff];(try simp only [Al_Bool_or_eq_true,Al_Bool_and_eq_true,Al_decide_eq_true_eq,reduceCtorEq,Al_true_iff,Al_false_iff,Al_iff_true,Al_iff_false,Al_Bool_true_eq_false,Al_Bool_false_eq_true]);omega),s.ext⟩
  try simp only [df] at h24
  refine .gy (.move Z)<|.gy (.eql Z Z)<|.yw (.pickF Z Z)<|.a Z Z<|.az Z<|?_
  refine y7 Z (.cons (.tmp Z) (.cons (.tmp Z) .nil)) rfl λW s=>⟨tup2 (by unfold rfN;rw [Al_Bool_eq_iff_iff];(try simp only [Al_Bool_or_eq_true,Al_Bool_and_eq_true,Al_decide_eq_true_eq,reduceCtorEq,Al_true_iff,Al_false_iff,Al_iff_true,Al_iff_false,Al_Bool_true_eq_false,Al_Bool_false_eq_true]);omega) (by unfold rfF;rw [Al_Bool_eq_iff_iff];(try simp only [Al_Bool_or_eq_true,Al_Bool_and_eq_true,Al_decide_eq_true_eq,reduceCtorEq,Al_true_iff,Al_false_iff,Al_iff_true,Al_iff_false,Al_Bool_true_eq_false,Al_Bool_false_eq_true]);omega),s.ext⟩
 try simp only [df] at h13
 refine .gG<|.gG<|.gy (.pickF Z Z)<|.yw (.pickF Z Z)<|.mv Z<|.yw (.eql Z Z)<|.mv Z<|.b2 (λh20=>?_) (λh20=>?_)
 ·try simp only [dt] at h20
  refine .gG<|.gG<|.yw (.pickT Z Z)<|.mv Z<|.gG<|.gG<|.yw (.pickT Z Z)<|.a Z Z<|.az Z<|?_
  refine y7 Z (.cons (.tmp Z) (.cons (.tmp Z) .nil)) rfl λW s=>⟨tup2 (by unfold rfN;rw [Al_Bool_eq_iff_iff];(try simp only [Al_Bool_or_eq_true,Al_Bool_and_eq_true,Al_decide_eq_true_eq,reduceCtorEq,Al_true_iff,Al_false_iff,Al_iff_true,Al_iff_false,Al_Bool_true_eq_false,Al_Bool_false_eq_true]);omega) (by unfold rfF;rw [Al_Bool_eq_iff_iff];(try simp only [Al_Bool_or_eq_true,Al_Bool_and_eq_true,Al_decide_eq_true_eq,reduceCtorEq,Al_true_iff,Al_false_iff,Al_iff_true,Al_iff_false,Al_Bool_true_eq_false,Al_Bool_false_eq_true]);omega),s.ext⟩
 try simp only [df] at h20
 refine .gy (.move Z)<|.gy (.eql Z Z)<|.yw (.pickF Z Z)<|.mv Z<|.b2 (λh24=>?_) (λh24=>?_)
 ·try simp only [dt] at h24
  refine .gG<|.gG<|.yw (.pickT Z Z)<|.a Z Z<|.az Z<|?_
  refine y7 Z (.cons (.tmp Z) (.cons (.tmp Z) .nil)) rfl λW s=>⟨tup2 (by unfold rfN;rw [Al_Bool_eq_iff_iff];(try simp only [Al_Bool_or_eq_true,Al_Bool_and_eq_true,Al_decide_eq_true_eq,reduceCtorEq,Al_true_iff,Al_false_iff,Al_iff_true,Al_iff_false,Al_Bool_true_eq_false,Al_Bool_false_eq_true]);omega) (by unfold rfF;rw [Al_Bool_eq_iff_iff];(try simp only [Al_Bool_or_eq_true,Al_Bool_and_eq_true,Al_decide_eq_true_eq,reduceCtorEq,Al_true_iff,Al_false_iff,Al_iff_true,Al_iff_false,Al_Bool_true_eq_false,Al_Bool_false_eq_true]);omega),s.ext⟩
 try simp only [df] at h24
 refine .gy (.move Z)<|.gy (.eql Z Z)<|.yw (.pickF Z Z)<|.a Z Z<|.az Z<|?_
 refine y7 Z (.cons (.tmp Z) (.cons (.tmp Z) .nil)) rfl λW s=>⟨tup2 (by unfold rfN;rw [Al_Bool_eq_iff_iff];(try simp only [Al_Bool_or_eq_true,Al_Bool_and_eq_true,Al_decide_eq_true_eq,reduceCtorEq,Al_true_iff,Al_false_iff,Al_iff_true,Al_iff_false,Al_Bool_true_eq_false,Al_Bool_false_eq_true]);omega) (by unfold rfF;rw [Al_Bool_eq_iff_iff];(try simp only [Al_Bool_or_eq_true,Al_Bool_and_eq_true,Al_decide_eq_true_eq,reduceCtorEq,Al_true_iff,Al_false_iff,Al_iff_true,Al_iff_false,Al_Bool_true_eq_false,Al_Bool_false_eq_true]);omega),s.ext⟩
def opI (k:Nat):Int:=if k<1\/18<k then -1 else if k<=7 then 0 else if (9<=k/\k<=11)\/k=15 then 2 else 1
theorem ret_i {a b:Int} (h:a=b):Ending.returned (.int .i64 a)=.returned (.int .i64 b):=by rw [h]
theorem opers_any (H:Hp) (k:Nat) (w:World) (hA:Agr H w):Calls prg 70 #[iN k] w λr w'=>r=.returned (.int .i64 (opI k))/\Ext w w':=by
 refine Sx.enter (H:=H) func70 rfl ntmps70 rfl hA ?_;refine .sr<|.aq Z<|.sq<|.bk<|.sm Z<|.yw (.lss Z Z)<|.mv Z<|.e2 (λh6=>?_) (λh6=>?_)
 ·refine .gG<|.gG<|.yw (.pickT Z Z)<|.aq Z<|.cT Z<|.sr<|.az Z<|.bR<|.tR<|?_
  refine y9 Z Z λW s=>⟨ret_i ?_,s.ext⟩;unfold opI
  repeat' split
  all_goals omega
 refine .gy (.move Z)<|.gy (.gtr Z Z)<|.yw (.pickF Z Z)<|.aq Z<|.ce Z (λh3=>?_) (λh3=>?_)
 ·refine .sr<|.az Z<|.bR<|.tR<|?_
  refine y9 Z Z λW s=>⟨ret_i ?_,s.ext⟩;unfold opI
  repeat' split
  all_goals omega
 refine .sm Z<|.yw (.leq Z Z)<|.aq Z<|.ce Z (λh10=>?_) (λh10=>?_)
 ·refine .sr<|.az Z<|.bR<|.tR<|?_
  refine y9 Z Z λW s=>⟨ret_i ?_,s.ext⟩;unfold opI
  repeat' split
  all_goals omega
 refine .sm Z<|.yw (.geq Z Z)<|.mv Z<|.e2 (λh16=>?_) (λh16=>?_)
 ·refine .gy (.move Z)<|.gy (.leq Z Z)<|.yw (.pickT Z Z)<|.mv Z<|.e2 (λh20=>?_) (λh20=>?_)
  ·refine .gG<|.gG<|.yw (.pickT Z Z)<|.aq Z<|.cT Z<|.sr<|.az Z<|.bR<|.tR<|?_
   refine y9 Z Z λW s=>⟨ret_i ?_,s.ext⟩;unfold opI
   repeat' split
   all_goals omega
  refine .gy (.move Z)<|.gy (.eql Z Z)<|.yw (.pickF Z Z)<|.aq Z<|.cd Z (λh13=>?_) (λh13=>?_)
  ·try simp only [dt] at h13
   refine .sr<|.az Z<|.bR<|.tR<|?_
   refine y9 Z Z λW s=>⟨ret_i ?_,s.ext⟩;unfold opI
   repeat' split
   all_goals omega
  try simp only [df] at h13
  refine .sk<|.bN<|.tN<|.sr<|.az Z<|?_
  refine y9 Z Z λW s=>⟨ret_i ?_,s.ext⟩;unfold opI
  repeat' split
  all_goals omega
 refine .gG<|.gG<|.yw (.pickF Z Z)<|.mv Z<|.gy (.move Z)<|.gy (.eql Z Z)<|.yw (.pickF Z Z)<|.aq Z<|.cd Z (λh13=>?_) (λh13=>?_)
 ·try simp only [dt] at h13
  refine .sr<|.az Z<|.bR<|.tR<|?_
  refine y9 Z Z λW s=>⟨ret_i ?_,s.ext⟩;unfold opI
  repeat' split
  all_goals omega
 try simp only [df] at h13
 refine .sk<|.bN<|.tN<|.sr<|.az Z<|?_
 refine y9 Z Z λW s=>⟨ret_i ?_,s.ext⟩;unfold opI
 repeat' split
 all_goals omega
theorem Fx.agg27:aggN prg 27=some (some 7):=by kernel_rfl
theorem Fx.agg149:aggN prg 149=some none:=by kernel_rfl
theorem Fx.call82:callN prg 82=true:=by kernel_rfl
theorem Fx.call130:callN prg 130=true:=by kernel_rfl
theorem Fx.field27_0:fieldN prg 27 0=some 0:=by kernel_rfl
theorem Fx.field27_1:fieldN prg 27 1=some 1:=by kernel_rfl
theorem Fx.field27_2:fieldN prg 27 2=some 2:=by kernel_rfl
theorem Fx.field27_3:fieldN prg 27 3=some 3:=by kernel_rfl
theorem Fx.field27_4:fieldN prg 27 4=some 4:=by kernel_rfl
theorem Fx.field27_5:fieldN prg 27 5=some 5:=by kernel_rfl
theorem Fx.field151_0:fieldN prg 151 0=some 0:=by kernel_rfl
theorem Fx.field151_1:fieldN prg 151 1=some 1:=by kernel_rfl
theorem Fx.field151_2:fieldN prg 151 2=some 2:=by kernel_rfl
theorem Fx.field151_3:fieldN prg 151 3=some 3:=by kernel_rfl
theorem Fx.field151_4:fieldN prg 151 4=some 4:=by kernel_rfl
theorem Fx.field151_5:fieldN prg 151 5=some 5:=by kernel_rfl
theorem Fx.field151_6:fieldN prg 151 6=some 6:=by kernel_rfl
theorem Fx.field151_7:fieldN prg 151 7=some 7:=by kernel_rfl
theorem Fx.size27:sizeN prg 27=some 7:=by kernel_rfl
theorem Fx.zero27:zeroN prg 27=some
 [Go.Value.int Go.IntKind.i64 (Int.ofNat 0),Go.Value.string { data:={ toList:=[] } },
  Go.Value.string { data:={ toList:=[] } },Go.Value.int Go.IntKind.i64 (Int.ofNat 0),
  Go.Value.int Go.IntKind.i64 (Int.ofNat 0),Go.Value.slice none 0 0,Go.Value.slice none 0 0]:=by kernel_rfl
theorem Fx.bld27_0 (x0:Int):buildN prg 27 [(0,.int .i64 x0)]=some [.int .i64 x0,.string ⟨#[]⟩,.string ⟨#[]⟩,.int .i64 0,.int .i64 0,.slice none 0 0,.slice none 0 0]:=by kernel_rfl
theorem Fx.bld83  : buildN prg 83 []=some [.int .i64 0,.string ⟨#[]⟩,.int .i64 0,.slice none 0 0]:=by kernel_rfl
theorem cv_n (h:n<256):IntKind.i64.wrap (n:Int)=(Int64.ofNat n).toInt:=by
 rw [Al_Int64_toInt_ofNat_of_lt (by omega)];exact w64 (by omega) (by omega)
theorem gd_1 {e:Ex} (h:goodE 1 e):gdE e=true:=by
 unfold gdE;rw [Al_decide_eq_true (show e.depth<=34 by have:=h.1;omega),h.2];rfl
theorem gd_pr {e:Ex} (h:goodE 1 e):goodE 1 (prE e):=⟨by rw [prE_depth];exact h.1,by rw [prE_narrow];exact h.2⟩
theorem gd_2 {e:Ex} (h:goodE 1 e):gdE e=true:=gd_1 h
theorem gd_3 {op:UInt8} {n:Int64} {e:Ex} (h:goodE 1 e):gdE (.mk op [] 0 [e,.mk 1 [] n []])=true:=by
 unfold gdE;have h1:=h.1;rw [all_mk,narrow_mk,Ex.alls,Ex.alls,Ex.alls,h.2,depth_mk,Ex.deeps,Ex.deeps,Ex.deeps,depth_mk,Ex.deeps,Al_Bool_and_eq_true,Al_decide_eq_true_eq];exact ⟨by omega,Z⟩
def OneC (x:Nf) (cs:List Value) (H:Hp):Prop:=∃ (op:UInt8) (nm fd:Str) (a b:Int64) (ex:List Ex) (p:Option Addr) (c:Nat),cs=[.int .i64 op.toNat,strV nm,strV fd,.int .i64 a.toInt,.int .i64 b.toInt,.slice p ex.length c,.slice none 0 0]/\Rep H (.seq 4 (ex.map (dEx .i64))) [.slice p ex.length c]/\op.toNat=x.op.toNat % 19/\nm.length<=13/\fd.length<=13/\ex.length<=4/\(∀ e∈ex,gdE e=true)/\Ex.counts ex<=800
set_option maxHeartbeats 2000000 in
theorem one_any (H:Hp) (x:Nf) (cs:List Value) (h:Rep H (dNf x) cs) (w:World) (hA:Agr H w) :
 Calls prg 69 #[.agg cs.toArray] w λr w'=>∃ (y:List Value) (H':Hp),OneC x y H'/\r=.returned (.agg y.toArray)/\Grow H w H' w':=by
 obtain ⟨p,c,rfl,hts⟩:=nf_open h;have hcap:=hts.cap;obtain ⟨op,hop⟩:∃ op:UInt8,op.toNat=x.op.toNat % 19:=⟨UInt8.ofNat (x.op.toNat % 19),by simp [Al_UInt8_toNat_ofNat'];omega⟩;have hct:=x.ct.toNat_lt;have hfdl:=x.fd.toNat_lt;refine Sx.enter (H:=H) func69 rfl ntmps69 rfl hA ?_;refine .sr<|.bx Z Z Z λb1=>.al Fx.zero27 Z λb2=>.ns<|.fA Z Fx.field151_0<|.lD Z Fx.agg5 mem1 Z<|.yw (.rem Z Z (by decide) (c:=((x.op.toNat % 19:Nat):Int)) (by rw [Al_Int_tmod_eq_emod_of_nonneg (by omega)];omega))<|.yw (.conv Z Fx.int5 Fx.int3 (c:=((op.toNat:Nat):Int)) ((w6 (by omega)).trans (by rw [hop])))<|.yw (.build Z (Fx.bld27_0 _))<|.al Fx.zero27 Z λb3=>.sX .head Z Z Fx.size27 Z<|.ns<|.fA Z Fx.field27_0<|.lD Z Fx.agg3 Hm Z<|.yw (.call Fx.call82 Z (λW s=>fields_any H op.toNat W s.agr))<|.mv Z<|.yw (.extract Z Z)<|.yw (.extract Z Z)<|.a Z Z<|.aq Z<|.cu (X:=Str) [(1,_),(2,_),(3,_),(5,_)] ⟨Z,Z,Z,Z,Jt⟩ (λnm=>[]) (λnm=>H) (λnm=>[.box b3 [.int .i64 op.toNat,strV nm,strV [],.int .i64 ((0:Int64)).toInt,.int .i64 ((0:Int64)).toInt,.slice none 0 0,.slice none 0 0] 27,.box b2 [.int .i64 0,.string ⟨#[]⟩,.string ⟨#[]⟩,.int .i64 0,.int .i64 0,.slice none 0 0,.slice none 0 0] 27,.box b1 [.int .u8 x.op.toNat,.int .u8 x.nm.toNat,.int .u8 x.fd.toNat,.int .u8 x.ct.toNat,.bool x.odd,.int .i64 x.a.toInt,.int .i64 x.b.toInt,.slice p x.ts.length c] 151]) (λnm=>nm.length<=13) ?_ λnm hC=>?_
 ·
  refine .sm Z<|.nt<|.cd Z (λh19=>?_) (λh19=>?_)
  ·exact .rg<|.fA Z Fx.field151_1<|.lD Z Fx.agg5 mem2 Z<|.yw (.call Fx.call128 Z (λW s=>word_any _ x.nm W s.agr))<|.fA Z Fx.field27_1<|.st .head Z Z Fx.size9 Z (nb Z) Z<|.nt<|.me (wordR x.nm) trivial ⟨Z,Z,Z,Z,Jt⟩ (λ_ s=>s) (word_len _)
  exact .sk<|.tN<|.me [] trivial ⟨Z,Z,Z,Z,Jt⟩ (λ_ s=>s) (by decide)
 have hnm:=hC;refine .cu (X:=Str) [(1,_),(2,_),(3,_)] ⟨Z,Z,Z,Jt⟩ (λfd=>[]) (λfd=>H) (λfd=>[.box b3 [.int .i64 op.toNat,strV nm,strV fd,.int .i64 ((0:Int64)).toInt,.int .i64 ((0:Int64)).toInt,.slice none 0 0,.slice none 0 0] 27,.box b2 [.int .i64 0,.string ⟨#[]⟩,.string ⟨#[]⟩,.int .i64 0,.int .i64 0,.slice none 0 0,.slice none 0 0] 27,.box b1 [.int .u8 x.op.toNat,.int .u8 x.nm.toNat,.int .u8 x.fd.toNat,.int .u8 x.ct.toNat,.bool x.odd,.int .i64 x.a.toInt,.int .i64 x.b.toInt,.slice p x.ts.length c] 151]) (λfd=>fd.length<=13) ?_ λfd hC=>?_
 ·
  refine .sm Z<|.nt<|.cd Z (λh24=>?_) (λh24=>?_)
  ·exact .rg<|.fA Z Fx.field151_2<|.lD Z Fx.agg5 mem2 Z<|.yw (.call Fx.call128 Z (λW s=>word_any _ x.fd W s.agr))<|.fA Z Fx.field27_2<|.st .head Z Z Fx.size9 Z (nb Z) Z<|.nt<|.me (wordR x.fd) trivial ⟨Z,Z,Z,Jt⟩ (λ_ s=>s) (word_len _)
  exact .sk<|.tN<|.me [] trivial ⟨Z,Z,Z,Jt⟩ (λ_ s=>s) (by decide)
 have hfd:=hC;refine .cu (X:=Int64 × Int64) [(1,_),(2,_),(3,_)] ⟨Z,Z,Z,Jt⟩ (λab=>[]) (λab=>H) (λab=>[.box b3 [.int .i64 op.toNat,strV nm,strV fd,.int .i64 ((ab.1:Int64)).toInt,.int .i64 ((ab.2:Int64)).toInt,.slice none 0 0,.slice none 0 0] 27,.box b2 [.int .i64 0,.string ⟨#[]⟩,.string ⟨#[]⟩,.int .i64 0,.int .i64 0,.slice none 0 0,.slice none 0 0] 27,.box b1 [.int .u8 x.op.toNat,.int .u8 x.nm.toNat,.int .u8 x.fd.toNat,.int .u8 x.ct.toNat,.bool x.odd,.int .i64 x.a.toInt,.int .i64 x.b.toInt,.slice p x.ts.length c] 151]) (λab=>True) ?_ λab hC=>?_
 ·
  refine .sr<|.fA Z Fx.field27_0<|.lD Z Fx.agg3 Hm Z<|.yw (.geq Z Z)<|.mv Z<|.e2 (λh32=>?_) (λh32=>?_)
  ·refine .gy (.fieldAddr Z Fx.field27_0)<|.gy (.load Z Fx.agg3 Hm Z)<|.gy (.neq Z Z)<|.yw (.pickT Z Z)<|.nt<|.ce Z (λh36=>?_) (λh36=>?_)
   ·exact .fL 7 [(0,0),(1,0),(2,0),(3,0),(4,0),(5,3),(6,0)]<|.fA Z Fx.field151_5<|.lD Z Fx.agg3 mem2 Z<|.fA Z Fx.field151_6<|.lD Z Fx.agg3 mem2 Z<|.fA Z Fx.field27_3<|.st .head Z Z Fx.size3 Z Z Z ((.dn<|.yv (.load Z Fx.agg3 mem2 Z)<|.yv (.fieldAddr Z Fx.field151_6)<|.d2<|.nl))<|.fA Z Fx.field27_4<|.fn (tl:=[_]) Z<|.st .head Z Z Fx.size3 Z (nb Z) Z<|.nt<|.me (x.a,x.b) trivial ⟨Z,Z,Z,Jt⟩ (λ_ s=>s) trivial
   exact .sk<|.tN<|.me (0,0) trivial ⟨Z,Z,Z,Jt⟩ (λ_ s=>s) trivial
  exact .gG<|.gG<|.gG<|.yw (.pickF Z Z)<|.nt<|.cF Z<|.sk<|.tN<|.me (0,0) trivial ⟨Z,Z,Z,Jt⟩ (λ_ s=>s) trivial
 obtain ⟨a,b⟩:=ab;dsimp only;refine .sr<|.fA Z Fx.field151_7<|.lD Z Fx.agg149 mem2 Z<|.ct (X:=List Value) Fx.call130 Z (λW s=>buildX_any H x.ts _ hts W s.agr) Z λx1 H1 hx1 u1=>?_
 obtain ⟨e0,rx,hg0,h13,hcn⟩:=hx1;obtain ⟨op1,nm1,n1,args1,rfl⟩:=ex_is e0;obtain ⟨p1,c1,rfl,hs1,_⟩:=ex_open rx;refine .ct (X:=List Value) Fx.call129 Z (λW s=>pairs_any _ h13 hg0.2 H1 _ W rx s.agr) Z λx2 H2 hx2 u2=>?_;have hg2:=gd_pr hg0;have hcn2:=prE_count (.mk op1 nm1 n1 args1);obtain ⟨op2,nm2,n2,args2,hx⟩:=ex_is (prE (.mk op1 nm1 n1 args1));rw [hx] at hx2 hg2 hcn2;obtain ⟨p2,c2,rfl,hs2,hnm2⟩:=ex_open hx2;refine .al Fx.zero83 Z λb6=>.sX .head Z Z Fx.size83 Z<|.nt<|.cu (X:=Hp × Value × List Ex × List Value) [(1,_),(2,_),(3,_)] ⟨Z,Z,Z,Jt⟩ (λz=>[]) (λz=>z.1) (λz=>[.row 83 4 z.2.1 z.2.2.1.length z.2.2.2,.box b3 [.int .i64 op.toNat,strV nm,strV fd,.int .i64 ((a:Int64)).toInt,.int .i64 ((b:Int64)).toInt,z.2.1,.slice none 0 0] 27,.box b2 [.int .i64 0,.string ⟨#[]⟩,.string ⟨#[]⟩,.int .i64 0,.int .i64 0,.slice none 0 0,.slice none 0 0] 27,.box b1 [.int .u8 x.op.toNat,.int .u8 x.nm.toNat,.int .u8 x.fd.toNat,.int .u8 x.ct.toNat,.bool x.odd,.int .i64 x.a.toInt,.int .i64 x.b.toInt,.slice p x.ts.length c] 151]) (λz=>HUp w H z.1/\RepZ z.1 4 (z.2.2.1.map (dEx .i64)) z.2.2.2/\z.2.2.1.length<=3/\(∀ e∈z.2.2.1,gdE e=true)/\Ex.counts z.2.2.1<=600) ?_ λz hC=>?_
 ·
  refine .sq<|?_
  refine Sx.row0 83 4 ?_;refine .rg<|.fA Z Fx.field27_0<|.lD Z Fx.agg3 mem2 Z<|.nt<|.bk<|.sr<|.yw (.eql Z Z)<|.aq Z<|.ce Z (λh49=>?_) (λh49=>?_)
  ·refine .rg<|.fA Z Fx.field151_3<|.lD Z Fx.agg5 mem4 Z<|.yw (.rem Z Z (by decide) (c:=((x.ct.toNat % 6:Nat):Int)) (by rw [Al_Int_tmod_eq_emod_of_nonneg (by omega)];omega))<|.yw (.conv Z Fx.int5 Fx.int3 (c:=((x.ct.toNat % 6:Nat):Int)) (w6 (by omega)))<|.yw (.add Z Z (c:=(((UInt8.ofNat (16+x.ct.toNat % 6)).toNat:Nat):Int)) (by rw [Al_UInt8_toNat_ofNat_of_lt' (by show 16+x.ct.toNat % 6<256;omega)];exact (w6 (by omega)).trans (by omega)))<|.yw (.loadW Z Fx.agg83 mem1 Z)<|.fA Z Fx.field151_2<|.lD Z Fx.agg5 mem4 Z<|.yw (.conv Z Fx.int5 Fx.int2 (c:=(Int64.ofNat (x.fd.toNat)).toInt) (cv_n (by omega)))<|.yw (.build Z (Fx.bld83_0_2 _ _))<|.bl Z (Fx.bsl24_2 _ _ _ _ _ _ _ _) Z λb61=>?_
   refine Sx.freezeBoxN λH3 u3 m3=>?_;exact .yw (.build Z (Fx.bld83_0_3 _ _ _ _))<|.blR (z:=4) Z (Fx.bsl24_1 _ _ _ _) Z Z (by simp [maxLen]) λb63=>.fA Z Fx.field27_5<|.st upd3 Z Z Fx.size24 Z (nb Z) Z<|.nl<|.bN<|.tN<|.me (H3,.slice (some ⟨b63,0,none⟩) 1 1,[(Ex.mk (UInt8.ofNat (16+x.ct.toNat % 6)) [] 0 [(Ex.mk op2 nm2 n2 args2),.mk 1 [] (Int64.ofNat x.fd.toNat) []])],[.int .i64 (UInt8.ofNat (16+x.ct.toNat % 6)).toNat,.string ⟨#[]⟩,.int .i64 0,.slice (some ⟨b61,0,none⟩) 2 2]) trivial ⟨Z,Z,Z,Jt⟩ (λ_ s=>s.pick [0,3,4,5] [_,_,_,_] Z Z) ⟨(u1.trans u2).trans u3,RepZ.single (ex_shut (by decide) (Rep.mk (n:=2) (c:=2) (ds:=[dEx .i64 (Ex.mk op2 nm2 n2 args2),dEx .i64 (.mk 1 [] (Int64.ofNat x.fd.toNat) [])]) m3 (RepZ.app (RepZ.single (ex_shut hnm2 (hs2.up u3.up)) Z) (RepZ.single (ex_shut (by decide) (Rep.empty (by decide))) Z)) Z (Al_Nat_le_refl _) (by decide))) Z,(by decide:1<=3),λe he=>by rw [Al_List_mem_singleton.1 he];exact gd_3 hg2,by dsimp only;simp only [Ex.counts,ex_count] at hcn2 hcn|-;omega⟩
  refine .sr<|.yw (.eql Z Z)<|.aq Z<|.ce Z (λh65=>?_) (λh65=>?_)
  ·exact .rg<|.yw (.loadW Z Fx.agg83 mem1 Z)<|.blR (z:=4) Z (Fx.bsl24_1 _ _ _ _) Z Z (by simp [maxLen]) λb68=>.fA Z Fx.field27_5<|.st upd3 Z Z Fx.size24 Z (nb Z) Z<|.nl<|.bN<|.tN<|.me (H2,.slice (some ⟨b68,0,none⟩) 1 1,[(Ex.mk op2 nm2 n2 args2)],[.int .i64 op2.toNat,strV nm2,.int .i64 n2.toInt,.slice p2 args2.length c2]) trivial ⟨Z,Z,Z,Jt⟩ (λ_ s=>s.pick [0,3,4,5] [_,_,_,_] Z Z) ⟨u1.trans u2,RepZ.single (ex_shut hnm2 hs2) Z,(by decide:1<=3),λe he=>by rw [Al_List_mem_singleton.1 he];exact gd_2 hg2,by dsimp only;simp only [Ex.counts];omega⟩
  refine .sr<|.yw (.eql Z Z)<|.aq Z<|.ce Z (λh70=>?_) (λh70=>?_)
  ·refine .sr<|.aq Z<|.bk<|.pm [1,0,2,3,4] [_,_,_,_,_] Z Z<|.lp (X:=Nat × Value × List Ex × List Value × Ex × Option Addr × Nat) [(1,_),(2,_),(3,_),(6,_)] ⟨Z,Z,Z,Z,Jt⟩ [_,_] (λz=>[(7,iN z.1)]) (λz=>H2) (λz=>[.box b6 [.int .i64 (z.2.2.2.2.1.op).toNat,strV z.2.2.2.2.1.nm,.int .i64 (z.2.2.2.2.1.n).toInt,.slice z.2.2.2.2.2.1 z.2.2.2.2.1.args.length z.2.2.2.2.2.2] 83,.row 83 4 z.2.1 z.1 z.2.2.2.1,.box b3 [.int .i64 op.toNat,strV nm,strV fd,.int .i64 ((a:Int64)).toInt,.int .i64 ((b:Int64)).toInt,z.2.1,.slice none 0 0] 27]) (λz=>(z.1<=x.ct.toNat % 4/\z.2.2.1.length=z.1)/\RepZ H2 4 (z.2.2.1.map (dEx .i64)) z.2.2.2.1/\(∀ e∈z.2.2.1,gdE e=true)/\Ex.counts z.2.2.1<=181 * z.1/\Rep H2 (dEx .i64 z.2.2.2.2.1) [.int .i64 (z.2.2.2.2.1.op).toNat,strV z.2.2.2.2.1.nm,.int .i64 (z.2.2.2.2.1.n).toInt,.slice z.2.2.2.2.2.1 z.2.2.2.2.1.args.length z.2.2.2.2.2.2]/\gdE z.2.2.2.2.1=true/\z.2.2.2.2.1.count<=181) (λz=>x.ct.toNat % 4 - z.1) (0,.slice none 0 0,[],[],(Ex.mk op2 nm2 n2 args2),p2,c2) (λ_ s=>s) ⟨Z,Jt⟩ ⟨⟨Al_Nat_zero_le _,Z⟩,RepZ.nil,λe he=>(by cases he),by rw [Ex.counts];exact Al_Nat_zero_le _,hx2,gd_2 hg2,by dsimp only;omega⟩ λz hC=>?_
   obtain ⟨k,r,ex,xs,te,tp,tc⟩:=z;obtain ⟨⟨hk0,hkl⟩,hz,hge,hxc,rt,gt,ct⟩:=hC;dsimp only at hk0 hkl hz hge hxc rt gt ct|-;obtain ⟨top,tnm,tn,targs,rfl⟩:=ex_is te;dsimp only [Ex.op,Ex.nm,Ex.n,Ex.args] at rt|-;refine .sq<|.sm Z<|.fA Z Fx.field151_3<|.lD Z Fx.agg5 mem4 Z<|.yw (.rem Z Z (by decide) (c:=((x.ct.toNat % 4:Nat):Int)) (by rw [Al_Int_tmod_eq_emod_of_nonneg (by omega)];omega))<|.yw (.conv Z Fx.int5 Fx.int3 (c:=((x.ct.toNat % 4:Nat):Int)) (w6 (by omega)))<|.yw (.lss Z Z)<|.nt<|.ce Z (λh77=>?_) (λh77=>?_)
   ·have hk:k<x.ct.toNat % 4:=by omega
    refine .sk<|.tN<|.sq<|.bk<|.sr<|.fA Z Fx.field27_5<|.lD Z Fx.agg24 mem2 Z<|.yw (.loadW Z Fx.agg83 Hm Z)<|.bl Z (Fx.bsl24_1 _ _ _ _) Z λb83=>.ap (news:=[.int .i64 top.toNat,strV tnm,.int .i64 tn.toInt,.slice tp targs.length tc]) Fx.row24 Z (λ_=>upd2) Z (.box Hm z0) Z (by simp [Value.oneCell',strV]) (by simp [maxLen];omega) (by omega) Z λr84 _=>?_
    refine At.ra mem2 λp84 c84 e84=>?_;subst e84;exact .fA Z Fx.field27_5<|.st upd3 Z Z Fx.size24 Z (nb Z) Z<|.nt<|.rg<|.yw (.build Z Fx.bld83)<|.sX upd1 Z Z Fx.size83 Z<|.nl<|.bN<|.tN<|.rg<|.mv Z<|.yw (.add Z Z w7)<|.aq Z<|.ag (x:=(k,r,ex,xs,.mk top tnm tn targs,tp,tc)) (k+1,.slice p84 (k+1) c84,ex++[Ex.mk top tnm tn targs],xs++[.int .i64 top.toNat,strV tnm,.int .i64 tn.toInt,.slice tp targs.length tc],Ex.mk 0 [] 0 [],none,0) ⟨Z,Jt⟩ ⟨Z,Z,Z,Z,Jt⟩ (λ_ s=>(s.pick [1,2,3,4,5] _ Z Z)) ⟨⟨by dsimp only;omega,by dsimp only;rw [Al_List_length_append];simp only [Al_List_length_cons,Al_List_length_nil];omega⟩,by dsimp only;rw [Al_List_map_append];exact hz.snoc rt Z,λe he=>by rcases Al_List_mem_append.1 he with h | h;exact hge e h;rw [Al_List_mem_singleton.1 h];exact gt,by dsimp only;rw [ex_counts_app,Ex.counts,Ex.counts];omega,ex_shut (by decide) (Rep.empty (Al_Nat_zero_le _)),Z,by dsimp only;simp only [Ex.counts,ex_count];omega⟩ (by dsimp only;omega)
   have hke:k=x.ct.toNat % 4:=by omega
   subst hkl;refine At.ra (.tail _ Hm) λp84 c84 e84=>?_;subst e84;have hkl3:ex.length<=3:=by omega
   exact .ex<|.tE<|.tE<|.bE<|.bN<|.tN<|.me (H2,.slice p84 ex.length c84,ex,xs) trivial ⟨Z,Z,Z,Jt⟩ (λ_ s=>s.pick [1,2,3,4] [_,_,_,_] Z Z) ⟨u1.trans u2,hz,hkl3,hge,(show Ex.counts ex<=600 by omega)⟩
  refine .sr<|.yw (.eql Z Z)<|.aq Z<|.ce Z (λh87=>?_) (λh87=>?_)
  ·exact .rg<|.fA Z Fx.field151_3<|.lD Z Fx.agg5 mem4 Z<|.yw (.rem Z Z (by decide) (c:=((x.ct.toNat % 40:Nat):Int)) (by rw [Al_Int_tmod_eq_emod_of_nonneg (by omega)];omega))<|.yw (.conv Z Fx.int5 Fx.int2 (c:=(Int64.ofNat (x.ct.toNat % 40)).toInt) (cv_n (by omega)))<|.yw (.build Z (Fx.bld83_0_2 _ _))<|.blR (z:=4) Z (Fx.bsl24_1 _ _ _ _) Z Z (by simp [maxLen]) λb94=>.fA Z Fx.field27_5<|.st upd3 Z Z Fx.size24 Z (nb Z) Z<|.nl<|.bN<|.tN<|.me (H2,.slice (some ⟨b94,0,none⟩) 1 1,[(Ex.mk 1 [] (Int64.ofNat (x.ct.toNat % 40)) [])],[.int .i64 1,.string ⟨#[]⟩,.int .i64 (Int64.ofNat (x.ct.toNat % 40)).toInt,.slice none 0 0]) trivial ⟨Z,Z,Z,Jt⟩ (λ_ s=>s.pick [0,3,4,5] [_,_,_,_] Z Z) ⟨u1.trans u2,RepZ.single (ex_shut (by decide) (Rep.empty (by decide))) Z,(by decide:1<=3),λe he=>by rw [Al_List_mem_singleton.1 he];rfl,by dsimp only;simp only [Ex.counts,ex_count];omega⟩
  exact .sk<|.bN<|.tN<|.me (H2,.slice none 0 0,[],[]) trivial ⟨Z,Z,Z,Jt⟩ (λ_ s=>s.pick [0,2,3,4] [_,_,_,_] Z Z) ⟨u1.trans u2,RepZ.nil,Al_Nat_zero_le _,λe he=>(by cases he),by rw [Ex.counts];omega⟩
 obtain ⟨H3,r,ex,xs⟩:=z;obtain ⟨u3,hz,hxl,hge,hxc⟩:=hC;dsimp only at u3 hz hxl hge hxc|-;refine At.ra Hm λpr cr er=>?_;subst er;have hts3:=hts.up u3.up;refine .cu (X:=Str × Str × Int64 × Int64 × Hp × Value × List Ex × List Value) [(2,_),(3,_)] ⟨Z,Z,Jt⟩ (λz=>[]) (λz=>z.2.2.2.2.1) (λz=>[.row 83 4 z.2.2.2.2.2.1 z.2.2.2.2.2.2.1.length z.2.2.2.2.2.2.2,.box b3 [.int .i64 op.toNat,strV z.1,strV z.2.1,.int .i64 ((z.2.2.1:Int64)).toInt,.int .i64 ((z.2.2.2.1:Int64)).toInt,z.2.2.2.2.2.1,.slice none 0 0] 27,.box b2 [.int .i64 0,.string ⟨#[]⟩,.string ⟨#[]⟩,.int .i64 0,.int .i64 0,.slice none 0 0,.slice none 0 0] 27,.box b1 [.int .u8 x.op.toNat,.int .u8 x.nm.toNat,.int .u8 x.fd.toNat,.int .u8 x.ct.toNat,.bool x.odd,.int .i64 x.a.toInt,.int .i64 x.b.toInt,.slice p x.ts.length c] 151]) (λz=>(z.1.length<=13/\z.2.1.length<=13)/\HUp w H z.2.2.2.2.1/\RepZ z.2.2.2.2.1 4 (z.2.2.2.2.2.2.1.map (dEx .i64)) z.2.2.2.2.2.2.2/\z.2.2.2.2.2.2.1.length<=4/\(∀ e∈z.2.2.2.2.2.2.1,gdE e=true)/\Ex.counts z.2.2.2.2.2.2.1<=800) ?_ λz hC=>?_
 ·
  refine .sr<|.fA Z Fx.field151_4<|.lD Z Fx.agg4 mem3 Z<|.nt<|.cd Z (λh97=>?_) (λh97=>?_)
  ·try simp only [dt] at h97
   refine .sr<|.fA Z Fx.field151_3<|.lD Z Fx.agg5 mem3 Z<|.yw (.rem Z Z (by decide) (c:=((x.ct.toNat % 6:Nat):Int)) (by rw [Al_Int_tmod_eq_emod_of_nonneg (by omega)];omega))<|.nt<|.bk<|.sr<|.yw (.eql Z Z)<|.aq Z<|.ce Z (λh101=>?_) (λh101=>?_)
   ·exact .rg<|.fA Z Fx.field151_1<|.lD Z Fx.agg5 mem3 Z<|.yw (.call Fx.call128 Z (λW s=>word_any _ x.nm W s.agr))<|.fA Z Fx.field27_1<|.st upd1 Z Z Fx.size9 Z (nb Z) Z<|.nl<|.bN<|.tN<|.me ((wordR x.nm),fd,a,b,H3,.slice pr ex.length cr,ex,xs) trivial ⟨Z,Z,Jt⟩ (λ_ s=>s) ⟨⟨by first | exact hnm | exact word_len _,by first | exact hfd | exact word_len _⟩,u3,hz,(show ex.length<=4 by omega),hge,(show Ex.counts ex<=800 by omega)⟩
   refine .sr<|.yw (.eql Z Z)<|.aq Z<|.ce Z (λh107=>?_) (λh107=>?_)
   ·exact .rg<|.fA Z Fx.field151_2<|.lD Z Fx.agg5 mem3 Z<|.yw (.call Fx.call128 Z (λW s=>word_any _ x.fd W s.agr))<|.fA Z Fx.field27_2<|.st upd1 Z Z Fx.size9 Z (nb Z) Z<|.nl<|.bN<|.tN<|.me (nm,(wordR x.fd),a,b,H3,.slice pr ex.length cr,ex,xs) trivial ⟨Z,Z,Jt⟩ (λ_ s=>s) ⟨⟨by first | exact hnm | exact word_len _,by first | exact hfd | exact word_len _⟩,u3,hz,(show ex.length<=4 by omega),hge,(show Ex.counts ex<=800 by omega)⟩
   refine .sr<|.yw (.eql Z Z)<|.aq Z<|.ce Z (λh113=>?_) (λh113=>?_)
   ·refine .fL 6 [(0,0),(1,0),(2,0),(3,0),(4,1),(5,1)]<|.fA Z Fx.field27_5<|.lD Z Fx.agg24 mem1 Z<|.fA Z Fx.field151_7<|.lD Z Fx.agg149 mem3 Z<|.ct (X:=List Value) Fx.call130 Z (λW s=>buildX_any H3 x.ts _ hts3 W s.agr) Z λx9 H4 hx9 u4=>?_
    obtain ⟨e9,rx9,hg9,_,hcn9⟩:=hx9;obtain ⟨op9,nm9,n9,args9,rfl⟩:=ex_is e9;obtain ⟨p9,c9,rfl,hs9,_⟩:=ex_open rx9;refine .bl Z (Fx.bsl24_1 _ _ _ _) Z λb120=>.fn (tl:=[_,_,_]) Z<|.ap (news:=[.int .i64 op9.toNat,strV nm9,.int .i64 n9.toInt,.slice p9 args9.length c9]) Fx.row24 Z (λ_=>upd1) Z (.box Hm z0) Z (by simp [Value.oneCell',strV]) (by simp [maxLen];omega) (by omega) Z λr121 _=>?_
    rw [show ex.length+1=(ex++[Ex.mk op9 nm9 n9 args9]).length by simp];refine At.ra mem1 λp121 c121 e121=>?_;subst e121;exact .fA Z Fx.field27_5<|.st upd2 Z Z Fx.size24 Z (nb Z) Z<|.nl<|.bN<|.tN<|.me (nm,fd,a,b,H4,.slice p121 (ex++[Ex.mk op9 nm9 n9 args9]).length c121,ex++[Ex.mk op9 nm9 n9 args9],xs++[.int .i64 op9.toNat,strV nm9,.int .i64 n9.toInt,.slice p9 args9.length c9]) trivial ⟨Z,Z,Jt⟩ (λ_ s=>s.pick [1,2,3,4] [_,_,_,_] Z Z) ⟨⟨hnm,hfd⟩,u3.trans u4,by dsimp only;rw [Al_List_map_append];exact (hz.up u4.up).snoc rx9 Z,by dsimp only;rw [Al_List_length_append];simp only [Al_List_length_cons,Al_List_length_nil];omega,λe he=>by rcases Al_List_mem_append.1 he with h | h;exact hge e h;rw [Al_List_mem_singleton.1 h];exact gd_1 hg9,by dsimp only;rw [ex_counts_app,Ex.counts,Ex.counts];omega⟩
   refine .sr<|.yw (.eql Z Z)<|.aq Z<|.ce Z (λh123=>?_) (λh123=>?_)
   ·exact .rg<|.fA Z Fx.field151_5<|.lD Z Fx.agg3 mem3 Z<|.fA Z Fx.field27_3<|.st upd1 Z Z Fx.size3 Z (nb Z) Z<|.nl<|.bN<|.tN<|.me (nm,fd,x.a,b,H3,.slice pr ex.length cr,ex,xs) trivial ⟨Z,Z,Jt⟩ (λ_ s=>s) ⟨⟨by first | exact hnm | exact word_len _,by first | exact hfd | exact word_len _⟩,u3,hz,(show ex.length<=4 by omega),hge,(show Ex.counts ex<=800 by omega)⟩
   refine .sr<|.yw (.eql Z Z)<|.aq Z<|.ce Z (λh128=>?_) (λh128=>?_)
   ·exact .rg<|.fA Z Fx.field151_6<|.lD Z Fx.agg3 mem3 Z<|.fA Z Fx.field27_4<|.st upd1 Z Z Fx.size3 Z (nb Z) Z<|.nl<|.bN<|.tN<|.me (nm,fd,a,x.b,H3,.slice pr ex.length cr,ex,xs) trivial ⟨Z,Z,Jt⟩ (λ_ s=>s) ⟨⟨by first | exact hnm | exact word_len _,by first | exact hfd | exact word_len _⟩,u3,hz,(show ex.length<=4 by omega),hge,(show Ex.counts ex<=800 by omega)⟩
   exact .sk<|.bN<|.tN<|.me (nm,fd,a,b,H3,.slice pr ex.length cr,ex,xs) trivial ⟨Z,Z,Jt⟩ (λ_ s=>s) ⟨⟨by first | exact hnm | exact word_len _,by first | exact hfd | exact word_len _⟩,u3,hz,(show ex.length<=4 by omega),hge,(show Ex.counts ex<=800 by omega)⟩
  try simp only [df] at h97
  exact .sk<|.tN<|.me (nm,fd,a,b,H3,.slice pr ex.length cr,ex,xs) trivial ⟨Z,Z,Jt⟩ (λ_ s=>s) ⟨⟨by first | exact hnm | exact word_len _,by first | exact hfd | exact word_len _⟩,u3,hz,(show ex.length<=4 by omega),hge,(show Ex.counts ex<=800 by omega)⟩
 obtain ⟨nm,fd,a,b,H5,r,ex,xs⟩:=z;obtain ⟨⟨hnm,hfd⟩,u5,hz,hxl,hge,hxc⟩:=hC;dsimp only at hnm hfd u5 hz hxl hge hxc|-;refine At.ra Hm λp5 c5 e5=>?_;subst e5;refine .sr<|.yw (.loadW Z Fx.agg27 mem1 Z)<|.sX upd2 Z Z Fx.size27 Z<|.nt<|.rt<|?_
 refine At.pm [0,2] [_,_] rfl rfl ?_;refine freezeSeq (ds:=ex.map (dEx .i64)) (Al_List_length_map ..) hz λH6 p6 c6 u6 hr6 hs6=>?_;refine y8 Z (.cell Z Fx.agg27 Hm rfl) λW s=>⟨_,H6,⟨op,nm,fd,a,b,ex,p5,c5,Z,hs6,hop,hnm,hfd,hxl,hge,hxc⟩,Z,(u5.trans u6).grow s⟩
theorem Fx.agg25:aggN prg 25=some none:=by kernel_rfl
theorem Fx.agg151:aggN prg 151=some (some 8):=by kernel_rfl
theorem Fx.call33:callN prg 33=true:=by kernel_rfl
theorem Fx.call69:callN prg 69=true:=by kernel_rfl
theorem Fx.call70:callN prg 70=true:=by kernel_rfl
theorem Fx.field27_6:fieldN prg 27 6=some 6:=by kernel_rfl
theorem Fx.row25:rowN prg 25=some (27,7,104):=by kernel_rfl
theorem Fx.size25:sizeN prg 25=some 1:=by kernel_rfl
theorem Fx.size151:sizeN prg 151=some 8:=by kernel_rfl
theorem Fx.sl22:slN prg 22=some 8:=by kernel_rfl
theorem Fx.zero151:zeroN prg 151=some
 [Go.Value.int Go.IntKind.u8 (Int.ofNat 0),Go.Value.int Go.IntKind.u8 (Int.ofNat 0),
  Go.Value.int Go.IntKind.u8 (Int.ofNat 0),Go.Value.int Go.IntKind.u8 (Int.ofNat 0),Go.Value.bool false,
  Go.Value.int Go.IntKind.i64 (Int.ofNat 0),Go.Value.int Go.IntKind.i64 (Int.ofNat 0),
  Go.Value.slice none 0 0]:=by kernel_rfl
theorem Fx.bsl25_1 (x00 x01 x02 x03 x04 x05 x06:Value):bslN prg 25 1 [(0,.agg [x00,x01,x02,x03,x04,x05,x06].toArray)]=some (27,[x00,x01,x02,x03,x04,x05,x06]):=by kernel_rfl
theorem u8wN (h:n<256):IntKind.u8.wrap (n:Int)=(n:Int):=by
 have key:∀ i∈List.range 256,IntKind.u8.wrap (i:Int)=(i:Int):=by decide +kernel
 exact key n (Al_List_mem_range.2 h)
theorem opI_bnd (k:Nat):-1<=opI k/\opI k<=2:=by unfold opI;split <;> (try split) <;> (try split) <;> omega
theorem build34_any:∀ (f d:Nat),d+f=13->∀ (H:Hp) (l:List Nf) (v:Value) (w:World),Rep H (.seq 8 (l.map dNf)) [v]->Agr H w ->
 Calls prg 33 #[v,iN d] w λr w'=>∃ (y:List Value × Value) (H':Hp),(∃ (g:Fm) (rest:List Nf),Rep H' (dFm .i64 g) y.1/\gdF g=true/\g.count+1010 * rest.length<=1010 * l.length+1/\Rep H' (.seq 8 (rest.map dNf)) [y.2])/\r=.returned (.tuple #[.agg y.1.toArray,y.2])/\Grow H w H' w':=by
 intro f;induction f using Nat.strongRecOn with
 | _ f ih =>
  intro d hd H l v w h hA;obtain ⟨p,c,e,_⟩:=h.sl;simp only [Al_List_cons_injEq,Al_and_true] at e;subst e;obtain ⟨n,hn⟩:∃ n,n=(l.map dNf).length:=⟨_,Z⟩;rw [<-hn] at h|-;have hnl:n=l.length:=by simpa using hn
  have hcap:=h.cap;refine Sx.enter (H:=H) func33 rfl ntmps33 rfl hA ?_;refine .sr<|.al Fx.zero27 Z λb4=>.aq Z<|.sq<|.sm Z<|.yw (.lenSl Fx.sl22 Z)<|.yw (.eql Z Z)<|.mv Z<|.e2 (λh15=>?_) (λh15=>?_)
  ·refine .gG<|.gG<|.yw (.pickT Z Z)<|.nt<|.cT Z<|.sr<|.yw (.build Z (Fx.bld27_0 _))<|.mv Z<|.sW .head Z Z Fx.size27 (by simp [Value.oneCell',strV,cNf]) Z<|.az Z<|.tR<|?_
   exact y7 Z (.cons (.cell Z Fx.agg27 Hm rfl) (.cons (.tmp Z) .nil)) rfl λW s=>⟨(_,_),H,⟨.mk 1 [] [] 0 0 [] [],l,fm_shut (k:=.i64) (by decide) (by decide) (Rep.empty (by decide)) (Rep.empty (by decide)),Z,(by simp only [Fm.count,Ex.counts,Fm.counts];omega),h⟩,Z,.pure hA s.ext⟩
  refine .gy (.move Z)<|.gy (.gtr Z Z)<|.yw (.pickF Z Z)<|.nt<|.ce Z (λh18=>?_) (λh18=>?_)
  ·refine .sr<|.yw (.build Z (Fx.bld27_0 _))<|.mv Z<|.sW .head Z Z Fx.size27 (by simp [Value.oneCell',strV,cNf]) Z<|.az Z<|.tR<|?_
   exact y7 Z (.cons (.cell Z Fx.agg27 Hm rfl) (.cons (.tmp Z) .nil)) rfl λW s=>⟨(_,_),H,⟨.mk 1 [] [] 0 0 [] [],l,fm_shut (k:=.i64) (by decide) (by decide) (Rep.empty (by decide)) (Rep.empty (by decide)),Z,(by simp only [Fm.count,Ex.counts,Fm.counts];omega),h⟩,Z,.pure hA s.ext⟩
  have hn0:0<n:=by omega
  obtain ⟨bE,oE,cE,hpE,rE,lE,mE⟩:=h.elem (map_at (f:=dNf) (show 0<l.length by omega));subst hpE;generalize hx:l[0]=x at rE;obtain ⟨pN,cN,rfl,hsN⟩:=nf_open rE;have hct:=x.ct.toNat_lt;refine .sk<|.tN<|.sm Z<|.yw (.indexSl Fx.sl22 Z Z (i:=0) Z (by omega) (q:=oE+0 * 8) (by omega))<|.yw (.loadMW Z Fx.agg151 mE Z)<|.al Fx.zero151 Z λb6=>.sW .head Z Z Fx.size151 (by simp [Value.oneCell',strV,cNf]) Z<|.ns<|.mv Z<|.yw (.cutLo Fx.sl22 Z Z (lo:=1) Z (by omega) h.len.2.1)<|.a Z Z<|.ns<|.yw (.loadW Z Fx.agg151 Hm Z)<|.ct (X:=List Value) Fx.call69 Z (λW s=>one_any H x _ rE W s.agr) Z λy27 H0 hy27 u0=>?_
  obtain ⟨op,nm,fd,a,b,ex,pX,cX,rfl,hsX,hop,hnm,hfd,hexl,hge,hexc⟩:=hy27;obtain ⟨m0,hm0,hm2⟩:∃ m0:Nat,max (opI op.toNat) 0=(m0:Int)/\m0<=2:=⟨(max (opI op.toNat) 0).toNat,by have:=opI_bnd op.toNat;omega,by have:=opI_bnd op.toNat;omega⟩;refine .al Fx.zero27 Z λb7=>.sW .head Z Z Fx.size27 (by simp [Value.oneCell',strV,cNf]) Z<|.ns<|.fA Z Fx.field27_0<|.lD Z Fx.agg3 Hm Z<|.yw (.call Fx.call70 Z (λW s=>opers_any _ op.toNat W s.agr))<|.yw (.max2 Z Z (c:=((m0:Nat):Int)) hm0)<|.aq Z<|.cu (X:=Nat) [(0,_),(1,_),(4,_),(7,_)] ⟨Z,Z,Z,Z,Jt⟩ (λm=>[(8,iN m)]) (λm=>H0) (λm=>[.box b7 [.int .i64 op.toNat,strV nm,strV fd,.int .i64 a.toInt,.int .i64 b.toInt,.slice pX ex.length cX,.slice none 0 0] 27,.box b6 [.int .u8 x.op.toNat,.int .u8 x.nm.toNat,.int .u8 x.fd.toNat,.int .u8 x.ct.toNat,.bool x.odd,.int .i64 x.a.toInt,.int .i64 x.b.toInt,.slice pN x.ts.length cN] 151,.box b4 [.int .i64 0,.string ⟨#[]⟩,.string ⟨#[]⟩,.int .i64 0,.int .i64 0,.slice none 0 0,.slice none 0 0] 27]) (λm=>m<=3) ?_ λm hC=>?_
  ·
   refine .sr<|.fA Z Fx.field151_4<|.lD Z Fx.agg4 mem1 Z<|.mv Z<|.b2 (λh34=>?_) (λh34=>?_)
   ·try simp only [dt] at h34
    refine .gy (.fieldAddr Z Fx.field151_3)<|.gy (.load Z Fx.agg5 mem1 Z)<|.gy (.rem Z Z (by decide) (c:=((x.ct.toNat % 6:Nat):Int)) (by rw [Al_Int_tmod_eq_emod_of_nonneg (by omega)];omega))<|.gy (.eql Z Z)<|.yw (.pickT Z Z)<|.nt<|.ce Z (λh39=>?_) (λh39=>?_)
    ·exact .rg<|.fA Z Fx.field151_3<|.lD Z Fx.agg5 mem1 Z<|.yw (.quo Z Z (by decide) (c:=((x.ct.toNat / 6:Nat):Int)) (by rw [Al_Int_tdiv_eq_ediv_of_nonneg (by omega),show ((x.ct.toNat:Nat):Int) / 6=((x.ct.toNat / 6:Nat):Int) by omega];exact u8wN (by omega)))<|.yw (.conv Z Fx.int5 Fx.int3 (c:=((x.ct.toNat / 6:Nat):Int)) (w6 (by omega)))<|.yw (.rem Z Z (by decide) (c:=((x.ct.toNat / 6 % 4:Nat):Int)) (by rw [Al_Int_tmod_eq_emod_of_nonneg (by omega)];omega))<|.aq Z<|.me (x.ct.toNat / 6 % 4) ⟨Z,Jt⟩ ⟨Z,Z,Z,Z,Jt⟩ (λ_ s=>s) (by omega)
    exact .sk<|.tN<|.me m0 ⟨Z,Jt⟩ ⟨Z,Z,Z,Z,Jt⟩ (λ_ s=>s) (by omega)
   try simp only [df] at h34
   exact .gG<|.gG<|.gG<|.gG<|.yw (.pickF Z Z)<|.nt<|.cF Z<|.sk<|.tN<|.me m0 ⟨Z,Jt⟩ ⟨Z,Z,Z,Z,Jt⟩ (λ_ s=>s) (by omega)
  have hm3:=hC;refine Sx.row0 27 7 ?_;refine .sq<|.sr<|.aq Z<|.bk<|.lp (X:=Nat × Hp × Value × List Value × Value) [(1,_),(4,_),(7,_),(8,_)] ⟨Z,Z,Z,Z,Jt⟩ [_,_] (λz=>[(9,iN z.1),(0,z.2.2.2.2)]) (λz=>z.2.1) (λz=>[.row 27 7 z.2.2.1 z.1 z.2.2.2.1,.box b7 [.int .i64 op.toNat,strV nm,strV fd,.int .i64 a.toInt,.int .i64 b.toInt,.slice pX ex.length cX,z.2.2.1] 27]) (λz=>z.1<=m/\HUp w H0 z.2.1/\∃ (gs:List Fm) (rest:List Nf),gs.length=z.1/\RepZ z.2.1 7 (gs.map (dFm .i64)) z.2.2.2.1/\(∀ g∈gs,gdF g=true)/\Fm.counts gs+1010 * rest.length+1010<=1010 * l.length+gs.length/\Rep z.2.1 (.seq 8 (rest.map dNf)) [z.2.2.2.2]) (λz=>m - z.1) (0,H0,.slice none 0 0,[],_) (λ_ s=>s) ⟨Z,Z,Jt⟩ ⟨by simp,.refl,[],l.drop 1,Z,RepZ.nil,(λg hg=>by cases hg),(by rw [Fm.counts,Al_List_length_drop,Al_List_length_nil];omega),(by have h5:=rep_drop h (lo:=1) (by omega);rw [<-Al_List_map_drop] at h5;exact h5.up u0.up)⟩ λz hC=>?_
  obtain ⟨k,H1,r,xs,rv⟩:=z;dsimp only at hC|-;obtain ⟨hk0,u1,gs,rest,hlen,hz,hgs,hcn,hrs⟩:=hC;refine .sq<|.sm Z<|.mv Z<|.yw (.lss Z Z)<|.nt<|.ce Z (λh47=>?_) (λh47=>?_)
  ·have hk:k<m:=by omega
   refine .sk<|.tN<|.sq<|.bk<|.sm Z<|.mv Z<|.yw (.add Z Z w7)<|.ct (X:=List Value × Value) Fx.call33 Z (λW s=>ih (f - 1) (by omega) (d+1) (by omega) H1 _ _ W hrs s.agr) Z λy2 H2 hc2 u2=>?_
   obtain ⟨x2,y2⟩:=y2;obtain ⟨g2,rest2,hc2,hg2,hcn2,hrs2⟩:=hc2;dsimp only at hc2 hrs2|-;obtain ⟨op2,nm2,fd2,a2,b2,ex2,as2⟩:=g2;obtain ⟨p2,c2,q2,d2,rfl,_,_,_,_⟩:=fm_open hc2;refine .mv Z<|.yw (.extract Z Z)<|.yw (.extract Z Z)<|.al Fx.zero27 Z λb10=>.sW .head Z Z Fx.size27 (by simp [Value.oneCell',strV,cNf]) Z<|.aq Z<|.rg<|.fA Z Fx.field27_6<|.lD Z Fx.agg25 mem2 Z<|.yw (.loadW Z Fx.agg27 Hm Z)<|.bl Z (Fx.bsl25_1 _ _ _ _ _ _ _) Z λb60=>.ap (news:=[.int .i64 op2.toNat,strV nm2,strV fd2,.int .i64 a2.toInt,.int .i64 b2.toInt,.slice p2 ex2.length c2,.slice q2 as2.length d2]) Fx.row25 Z (λ_=>upd2) Z (.box Hm z0) Z (by simp [Value.oneCell',strV]) (by simp [maxLen];omega) (by omega) Z λr61 _=>?_
   refine At.ra (by first | exact .tail _ (.tail _ Hm) | exact .tail _ (.tail _ (.tail _ Hm))) λp61 c61 e61=>?_;exact .mv Z<|.fA Z Fx.field27_6<|.st upd3 Z Z Fx.size25 (by rw [e61];rfl) (nb Z) Z<|.a Z Z<|.nl<|.bN<|.tN<|.rg<|.mv Z<|.yw (.add Z Z w7)<|.aq Z<|.ag (x:=(k,H1,r,xs,rv)) (k+1,H2,r61,xs++[.int .i64 op2.toNat,strV nm2,strV fd2,.int .i64 a2.toInt,.int .i64 b2.toInt,.slice p2 ex2.length c2,.slice q2 as2.length d2],y2) ⟨Z,Z,Jt⟩ ⟨Z,Z,Z,Z,Jt⟩ (λ_ s=>(s.pick [2,3,4,5] _ Z Z)) ⟨by dsimp only;omega,u1.trans u2,gs++[.mk op2 nm2 fd2 a2 b2 ex2 as2],rest2,by simp;omega,by rw [Al_List_map_append];exact (hz.up u2.up).snoc hc2 Z,(λg hg=>by rcases Al_List_mem_append.1 hg with h | h;exact hgs g h;rw [Al_List_mem_singleton.1 h];exact hg2),(by rw [fm_counts_app,Fm.counts,Fm.counts,Al_List_length_append];simp only [Al_List_length_cons,Al_List_length_nil];omega),hrs2⟩ (by dsimp only;omega)
  obtain rfl:k=m:=by omega
  refine At.ra Hm λp61 c61 e61=>?_;subst e61;refine .ex<|.eb<|.sr<|.yw (.loadW Z Fx.agg27 mem1 Z)<|.mv Z<|.sW upd3 Z Z Fx.size27 (by simp [Value.oneCell',strV,cNf]) Z<|.az Z<|?_
  refine At.pm [0,3] [_,_] rfl rfl ?_;refine freezeSeq (ds:=gs.map (dFm .i64)) (by simp;omega) hz λH3 p3 c3 u3 hr3 hs3=>?_;refine y7 Z (.cons (.cell Z Fx.agg27 Hm rfl) (.cons (.tmp Z) .nil)) rfl λW s=>⟨(_,_),H3,⟨.mk op nm fd a b ex gs,rest,fm_shut (k:=.i64) (by omega) (by omega) ((hsX.up u1.up).up u3.up) hs3,?_,?_,hrs.up u3.up⟩,Z,((u0.trans u1).trans u3).grow s⟩
  ·exact gdF_mk.2 ⟨⟨by omega,hexl,by omega,hge⟩,hgs⟩
  ·rw [fm_count];omega
def BuiltF (x:List Value) (H':Hp):Prop:=∃ g:Fm,Rep H' (dFm .i64 g) x/\gdF g=true/\g.count<=40000
theorem buildF34_any (H:Hp) (l:List Nf) (v:Value) (h0:Rep H (.seq 8 (l.map dNf)) [v]) (w:World) (hA:Agr H w) :
 Calls prg 14 #[v] w λr w'=>∃ (x:List Value) (H':Hp),BuiltF x H'/\r=.returned (.agg x.toArray)/\Grow H w H' w':=by
 obtain ⟨p,c,e,_⟩:=h0.sl;simp only [Al_List_cons_injEq,Al_and_true,Al_List_length_map] at e;subst e;have h:=h0;have hcap:=h.cap;refine Sx.enter (H:=H) func14 rfl ntmps14 rfl hA ?_;refine .sr<|.al Fx.zero27 Z λb2=>.ns<|.mv Z<|.mv Z<|.yw (.lenSl Fx.sl22 Z)<|.yw (.min2 Z Z (c:=((min l.length 30:Nat):Int)) (by omega))<|.yw (.cutHi2 Fx.sl22 Z Z (h:=min l.length 30) Z (by have:=h.len.2.1;omega))<|.ct (X:=List Value × Value) Fx.call33 Z (λW s=>build34_any 12 1 Z H (l.take (min l.length 30)) _ W (by rw [Al_List_map_take];exact rep_take2 h (by omega)) s.agr) Z λy H1 hc u1=>?_
 obtain ⟨x,y⟩:=y;obtain ⟨e,rest,hx,hg,hcn,_⟩:=hc;dsimp only at hx;rw [Al_List_length_take] at hcn;refine .mv Z<|.yw (.extract Z Z)<|.yw (.extract Z Z)<|.al Fx.zero27 Z λb3=>.sV .head Z Z Fx.size27 (fm_len hx) hx.one Z<|.a Z Z<|.ns<|.yw (.loadW Z Fx.agg27 Hm (fm_len hx))<|.sV upd1 Z Z Fx.size27 (fm_len hx) hx.one Z<|.nt<|.rt<|?_
 exact y8 Z (.cell Z Fx.agg27 mem1 (fm_len hx)) λW t=>⟨x,H1,⟨e,hx,hg,by omega⟩,Z,u1.grow t⟩
theorem Fx.call16:callN prg 16=true:=by kernel_rfl
theorem Fx.sl25:slN prg 25=some 7:=by kernel_rfl
theorem Fx.bld35_0_1_2_3_4 (x0:Int) (x1 x2:ByteArray) (x3 x4:Int):buildN prg 35 [(0,.int .u8 x0),(1,.string x1),(2,.string x2),(3,.int .i64 x3),(4,.int .i64 x4)]=some [.int .u8 x0,.string x1,.string x2,.int .i64 x3,.int .i64 x4,.slice none 0 0,.slice none 0 0]:=by kernel_rfl
end Go.Proofs.YtidclioghdbphaaGreatDoor
