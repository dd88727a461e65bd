/- Texts of the proof, one behind the other. -/
import Derived.Test.YtidclioghdbphaaGreatDoorMb
import Derived.Lib.ItoaNum
import Derived.Lib.ItoaLen
import Derived.Lib.ParseIntB
import Derived.Lib.ParseIntBCases
import Derived.Lib.IndexMore
set_option linter.all false
set_option maxRecDepth 100000
namespace Go.Proofs.YtidclioghdbphaaGreatDoor
open Go.RowKit Go.Par Go.Sx Tryz
theorem WR (x0 x1 x2 x3 x4 x5 x6 x7 x8 x9 x10 x11 x12 x13 x14 x15 x16 x17 x18 x19 x20 x21 x22 x23 x24:ByteArray):wH prg 71 25 [(0,.string x0),(1,.string x1),(2,.string x2),(3,.string x3),(4,.string x4),(5,.string x5),(6,.string x6),(7,.string x7),(8,.string x8),(9,.string x9),(10,.string x10),(11,.string x11),(12,.string x12),(13,.string x13),(14,.string x14),(15,.string x15),(16,.string x16),(17,.string x17),(18,.string x18),(19,.string x19),(20,.string x20),(21,.string x21),(22,.string x22),(23,.string x23),(24,.string x24)]=some (9,[.string x0,.string x1,.string x2,.string x3,.string x4,.string x5,.string x6,.string x7,.string x8,.string x9,.string x10,.string x11,.string x12,.string x13,.string x14,.string x15,.string x16,.string x17,.string x18,.string x19,.string x20,.string x21,.string x22,.string x23,.string x24]):=by kernel_rfl
theorem WQ (x0 x1 x2 x3 x4 x5 x6 x7 x8 x9 x10 x11 x12 x13 x14 x15 x16 x17 x18 x19 x20 x21 x22 x23 x24 x25 x26 x27 x28 x29 x30 x31 x32 x33 x34 x35 x36 x37 x38:ByteArray):wH prg 71 39 [(0,.string x0),(1,.string x1),(2,.string x2),(3,.string x3),(4,.string x4),(5,.string x5),(6,.string x6),(7,.string x7),(8,.string x8),(9,.string x9),(10,.string x10),(11,.string x11),(12,.string x12),(13,.string x13),(14,.string x14),(15,.string x15),(16,.string x16),(17,.string x17),(18,.string x18),(19,.string x19),(20,.string x20),(21,.string x21),(22,.string x22),(23,.string x23),(24,.string x24),(25,.string x25),(26,.string x26),(27,.string x27),(28,.string x28),(29,.string x29),(30,.string x30),(31,.string x31),(32,.string x32),(33,.string x33),(34,.string x34),(35,.string x35),(36,.string x36),(37,.string x37),(38,.string x38)]=some (9,[.string x0,.string x1,.string x2,.string x3,.string x4,.string x5,.string x6,.string x7,.string x8,.string x9,.string x10,.string x11,.string x12,.string x13,.string x14,.string x15,.string x16,.string x17,.string x18,.string x19,.string x20,.string x21,.string x22,.string x23,.string x24,.string x25,.string x26,.string x27,.string x28,.string x29,.string x30,.string x31,.string x32,.string x33,.string x34,.string x35,.string x36,.string x37,.string x38]):=by kernel_rfl
theorem uA:kS prg 70=some (some 3):=by kernel_rfl
theorem NB:cZ prg 124=true:=by kernel_rfl
theorem EW:cZ prg 125=true:=by kernel_rfl
theorem ZO:cZ prg 126=true:=by kernel_rfl
theorem ZN:cZ prg 127=true:=by kernel_rfl
theorem rH:hZ prg 70=some 3:=by kernel_rfl
theorem PZ:pH prg 70=some
 [Go.Value.int Go.IntKind.i64 (Int.ofNat 0),Go.Value.string { data:={ toList:=[] } },
  Go.Value.int Go.IntKind.i64 (Int.ofNat 0)]:=by kernel_rfl
theorem kV (x0:Int) (x1:ByteArray) (x2:Int):iG prg 70 [(0,.int .i64 x0),(1,.string x1),(2,.int .i64 x2)]=some [.int .i64 x0,.string x1,.int .i64 x2]:=by kernel_rfl
theorem aO8:cZ prg 32=true:=by kernel_rfl
theorem QK:cZ prg 67=true:=by kernel_rfl
theorem aN8:cZ prg 68=true:=by kernel_rfl
theorem TG:dZ prg 70 0=some 0:=by kernel_rfl
theorem GU:dZ prg 70 1=some 1:=by kernel_rfl
theorem bE4:yR prg 67=some (70,3,32):=by kernel_rfl
theorem TE:slN prg 67=some 3:=by kernel_rfl
theorem ZS (x00 x01 x02:Value):wH prg 67 1 [(0,.agg [x00,x01,x02].toArray)]=some (70,[x00,x01,x02]):=by kernel_rfl
theorem uR:cZ prg 83=true:=by kernel_rfl
theorem AN:cZ prg 134=true:=by kernel_rfl
theorem WS (x0 x1 x2 x3 x4 x5 x6 x7 x8 x9 x10 x11 x12:ByteArray):wH prg 71 13 [(0,.string x0),(1,.string x1),(2,.string x2),(3,.string x3),(4,.string x4),(5,.string x5),(6,.string x6),(7,.string x7),(8,.string x8),(9,.string x9),(10,.string x10),(11,.string x11),(12,.string x12)]=some (9,[.string x0,.string x1,.string x2,.string x3,.string x4,.string x5,.string x6,.string x7,.string x8,.string x9,.string x10,.string x11,.string x12]):=by kernel_rfl
theorem tA:cZ prg 87=true:=by kernel_rfl
theorem AM:cZ prg 135=true:=by kernel_rfl
theorem MY:cZ prg 136=true:=by kernel_rfl
theorem ZL:cZ prg 137=true:=by kernel_rfl
theorem bE3:yR prg 71=some (9,1,16):=by kernel_rfl
theorem ZR (x0:ByteArray):wH prg 71 1 [(0,.string x0)]=some (9,[.string x0]):=by kernel_rfl
theorem TI (x0:Int) (x3p:Option Addr) (x3n x3c:Nat):iG prg 83 [(0,.int .i64 x0),(3,.slice x3p x3n x3c)]=some [.int .i64 x0,.string ⟨#[]⟩,.int .i64 0,.slice x3p x3n x3c]:=by kernel_rfl
theorem ZV (x00 x01 x02 x03 x10 x11 x12 x13:Value):wH prg 24 2 [(0,.agg [x00,x01,x02,x03].toArray),(1,.agg [x10,x11,x12,x13].toArray)]=some (83,[x00,x01,x02,x03,x10,x11,x12,x13]):=by kernel_rfl
theorem iH:hZ prg 3=some 1:=by kernel_rfl
theorem kW:kS prg 74=some none:=by kernel_rfl
theorem iI:dZ prg 76 0=some 0:=by kernel_rfl
theorem gM:dZ prg 76 1=some 1:=by kernel_rfl
theorem gZ:dZ prg 76 2=some 2:=by kernel_rfl
theorem qT:kS prg 29=some none:=by kernel_rfl
theorem GW:kS prg 99=some none:=by kernel_rfl
theorem oM:kS prg 106=some none:=by kernel_rfl
theorem IM:kS prg 108=some (some 3):=by kernel_rfl
theorem sY:cZ prg 98=true:=by kernel_rfl
theorem pT:dZ prg 102 0=some 0:=by kernel_rfl
theorem gS:dZ prg 102 1=some 1:=by kernel_rfl
theorem sE:dZ prg 102 7=some 7:=by kernel_rfl
theorem iW:dZ prg 102 8=some 8:=by kernel_rfl
theorem jL:dZ prg 108 0=some 0:=by kernel_rfl
theorem kM:dZ prg 108 1=some 1:=by kernel_rfl
theorem aM7:hZ prg 29=some 1:=by kernel_rfl
theorem xH:hZ prg 108=some 3:=by kernel_rfl
theorem aG3:slN prg 99=some 3:=by kernel_rfl
theorem xF:pH prg 108=some
 [Go.Value.int Go.IntKind.u8 (Int.ofNat 0),Go.Value.string { data:={ toList:=[] } },
  Go.Value.int Go.IntKind.i64 (Int.ofNat 0)]:=by kernel_rfl
theorem jW:cZ prg 100=true:=by kernel_rfl
theorem iS:cZ prg 104=true:=by kernel_rfl
theorem dG:cZ prg 107=true:=by kernel_rfl
theorem cQ:kS prg 35=some (some 7):=by kernel_rfl
theorem sM:cZ prg 110=true:=by kernel_rfl
theorem sL:cZ prg 113=true:=by kernel_rfl
theorem nP:cZ prg 114=true:=by kernel_rfl
theorem ZE:cZ prg 158=true:=by kernel_rfl
theorem MS:cZ prg 180=true:=by kernel_rfl
theorem kI:dZ prg 35 2=some 2:=by kernel_rfl
theorem jB:dZ prg 35 3=some 3:=by kernel_rfl
theorem hP:dZ prg 35 4=some 4:=by kernel_rfl
theorem TF:VJ prg 2=some Go.IntKind.i64:=by kernel_rfl
theorem dM:hZ prg 35=some 7:=by kernel_rfl
theorem fV:pH prg 35=some
 [Go.Value.int Go.IntKind.u8 (Int.ofNat 0),Go.Value.string { data:={ toList:=[] } },
  Go.Value.string { data:={ toList:=[] } },Go.Value.int Go.IntKind.i64 (Int.ofNat 0),
  Go.Value.int Go.IntKind.i64 (Int.ofNat 0),Go.Value.slice none 0 0,Go.Value.slice none 0 0]:=by kernel_rfl
theorem wJ (x0:Int) (x1:ByteArray):iG prg 35 [(0,.int .u8 x0),(1,.string x1)]=some [.int .u8 x0,.string x1,.string ⟨#[]⟩,.int .i64 0,.int .i64 0,.slice none 0 0,.slice none 0 0]:=by kernel_rfl
theorem TK (x0 x4:Int):iG prg 35 [(0,.int .u8 x0),(4,.int .i64 x4)]=some [.int .u8 x0,.string ⟨#[]⟩,.string ⟨#[]⟩,.int .i64 0,.int .i64 x4,.slice none 0 0,.slice none 0 0]:=by kernel_rfl
theorem zH:kS prg 97=some (some 11):=by kernel_rfl
theorem vO:kS prg 98=some none:=by kernel_rfl
theorem pU:kS prg 100=some none:=by kernel_rfl
theorem wQ:kS prg 179=some (some 13):=by kernel_rfl
theorem mK:cZ prg 105=true:=by kernel_rfl
theorem pC:dZ prg 97 1=some 1:=by kernel_rfl
theorem tZ:dZ prg 97 2=some 2:=by kernel_rfl
theorem iY:dZ prg 102 2=some 2:=by kernel_rfl
theorem iX:dZ prg 102 3=some 3:=by kernel_rfl
theorem lV:dZ prg 102 4=some 4:=by kernel_rfl
theorem WN:yR prg 98=some (97,11,128):=by kernel_rfl
theorem aM9:yR prg 100=some (179,13,168):=by kernel_rfl
theorem nG:hZ prg 4=some 1:=by kernel_rfl
theorem CU:hZ prg 98=some 1:=by kernel_rfl
theorem MR:hZ prg 100=some 1:=by kernel_rfl
theorem xG:hZ prg 179=some 13:=by kernel_rfl
theorem CT:slN prg 98=some 11:=by kernel_rfl
theorem tY:slN prg 100=some 13:=by kernel_rfl
theorem xE:pH prg 179=some
 [Go.Value.bool false,Go.Value.bool false,Go.Value.int Go.IntKind.u8 (Int.ofNat 0),
  Go.Value.string { data:={ toList:=[] } },Go.Value.int Go.IntKind.i64 (Int.ofNat 0),
  Go.Value.slice none 0 0,Go.Value.int Go.IntKind.u8 (Int.ofNat 0),
  Go.Value.string { data:={ toList:=[] } },Go.Value.string { data:={ toList:=[] } },
  Go.Value.int Go.IntKind.i64 (Int.ofNat 0),Go.Value.int Go.IntKind.i64 (Int.ofNat 0),
  Go.Value.slice none 0 0,Go.Value.slice none 0 0]:=by kernel_rfl
theorem WT (x00 x01 x02 x03 x04 x05 x06 x07 x08 x09 x010 x011 x012:Value):wH prg 100 1 [(0,.agg [x00,x01,x02,x03,x04,x05,x06,x07,x08,x09,x010,x011,x012].toArray)]=some (179,[x00,x01,x02,x03,x04,x05,x06,x07,x08,x09,x010,x011,x012]):=by kernel_rfl
theorem EY (x00 x01 x02 x03 x04 x05 x06 x07 x08 x09 x010:Value):wH prg 98 1 [(0,.agg [x00,x01,x02,x03,x04,x05,x06,x07,x08,x09,x010].toArray)]=some (97,[x00,x01,x02,x03,x04,x05,x06,x07,x08,x09,x010]):=by kernel_rfl
theorem QU:cZ prg 20=true:=by kernel_rfl
theorem aO2:cZ prg 49=true:=by kernel_rfl
theorem aN2:cZ prg 94=true:=by kernel_rfl
theorem fT:cZ prg 108=true:=by kernel_rfl
theorem EX:cZ prg 116=true:=by kernel_rfl
theorem ZJ:cZ prg 145=true:=by kernel_rfl
theorem nN:dZ prg 102 6=some 6:=by kernel_rfl
theorem DV:dZ prg 179 0=some 0:=by kernel_rfl
theorem uY:dZ prg 179 2=some 2:=by kernel_rfl
theorem OA:dZ prg 179 3=some 6:=by kernel_rfl
theorem xL (x0:Int) (x1 x2:ByteArray):iG prg 35 [(0,.int .u8 x0),(1,.string x1),(2,.string x2)]=some [.int .u8 x0,.string x1,.string x2,.int .i64 0,.int .i64 0,.slice none 0 0,.slice none 0 0]:=by kernel_rfl
theorem mL:kS prg 95=some none:=by kernel_rfl
theorem wP:cZ prg 57=true:=by kernel_rfl
theorem nO:cZ prg 155=true:=by kernel_rfl
theorem hI:dZ prg 35 6=some 6:=by kernel_rfl
theorem gJ:dZ prg 97 0=some 0:=by kernel_rfl
theorem AJ:dZ prg 97 3=some 3:=by kernel_rfl
theorem dK:dZ prg 97 4=some 4:=by kernel_rfl
theorem CV:hZ prg 33=some 1:=by kernel_rfl
theorem QB:hZ prg 97=some 11:=by kernel_rfl
theorem PY:pH prg 97=some
 [Go.Value.int Go.IntKind.u8 (Int.ofNat 0),Go.Value.int Go.IntKind.i64 (Int.ofNat 0),Go.Value.bool false,
  Go.Value.int Go.IntKind.u8 (Int.ofNat 0),Go.Value.int Go.IntKind.u8 (Int.ofNat 0),
  Go.Value.string { data:={ toList:=[] } },Go.Value.string { data:={ toList:=[] } },
  Go.Value.int Go.IntKind.i64 (Int.ofNat 0),Go.Value.int Go.IntKind.i64 (Int.ofNat 0),
  Go.Value.slice none 0 0,Go.Value.slice none 0 0]:=by kernel_rfl
theorem jN (x0:Bool) (x20 x21 x22 x23:Value):iG prg 179 [(0,.bool x0),(2,.agg [x20,x21,x22,x23].toArray)]=some [.bool x0,.bool false,x20,x21,x22,x23,.int .u8 0,.string ⟨#[]⟩,.string ⟨#[]⟩,.int .i64 0,.int .i64 0,.slice none 0 0,.slice none 0 0]:=by kernel_rfl
theorem iT (x30 x31 x32 x33 x34 x35 x36:Value):iG prg 179 [(3,.agg [x30,x31,x32,x33,x34,x35,x36].toArray)]=some [.bool false,.bool false,.int .u8 0,.string ⟨#[]⟩,.int .i64 0,.slice none 0 0,x30,x31,x32,x33,x34,x35,x36]:=by kernel_rfl
theorem TJ (x0:Int) (x5p:Option Addr) (x5n x5c:Nat):iG prg 35 [(0,.int .u8 x0),(5,.slice x5p x5n x5c)]=some [.int .u8 x0,.string ⟨#[]⟩,.string ⟨#[]⟩,.int .i64 0,.int .i64 0,.slice x5p x5n x5c,.slice none 0 0]:=by kernel_rfl
theorem AQ (x0:Int) (x3p:Option Addr) (x3n x3c:Nat):iG prg 76 [(0,.int .u8 x0),(3,.slice x3p x3n x3c)]=some [.int .u8 x0,.string ⟨#[]⟩,.int .i64 0,.slice x3p x3n x3c]:=by kernel_rfl
theorem NH (x00 x01 x02 x03 x10 x11 x12 x13:Value):wH prg 32 2 [(0,.agg [x00,x01,x02,x03].toArray),(1,.agg [x10,x11,x12,x13].toArray)]=some (76,[x00,x01,x02,x03,x10,x11,x12,x13]):=by kernel_rfl
theorem AO (x00 x01 x02 x03 x04 x05 x06:Value):wH prg 33 1 [(0,.agg [x00,x01,x02,x03,x04,x05,x06].toArray)]=some (35,[x00,x01,x02,x03,x04,x05,x06]):=by kernel_rfl
theorem ZT (x00 x01 x02 x03 x04 x05 x06 x10 x11 x12 x13 x14 x15 x16:Value):wH prg 33 2 [(0,.agg [x00,x01,x02,x03,x04,x05,x06].toArray),(1,.agg [x10,x11,x12,x13,x14,x15,x16].toArray)]=some (35,[x00,x01,x02,x03,x04,x05,x06,x10,x11,x12,x13,x14,x15,x16]):=by kernel_rfl
theorem fY:cZ prg 109=true:=by kernel_rfl
theorem xJ:cZ prg 112=true:=by kernel_rfl
theorem EU:cZ prg 154=true:=by kernel_rfl
theorem ET:cZ prg 157=true:=by kernel_rfl
theorem pF (x0:Int):iG prg 35 [(0,.int .u8 x0)]=some [.int .u8 x0,.string ⟨#[]⟩,.string ⟨#[]⟩,.int .i64 0,.int .i64 0,.slice none 0 0,.slice none 0 0]:=by kernel_rfl
theorem ZW (x1:ByteArray):iG prg 35 [(1,.string x1)]=some [.int .u8 0,.string x1,.string ⟨#[]⟩,.int .i64 0,.int .i64 0,.slice none 0 0,.slice none 0 0]:=by kernel_rfl
theorem wI (x0:Int) (x1:ByteArray):iG prg 76 [(0,.int .u8 x0),(1,.string x1)]=some [.int .u8 x0,.string x1,.int .i64 0,.slice none 0 0]:=by kernel_rfl
theorem jM (x0 x1:Int) (x40 x41 x42 x43 x44 x45 x46:Value):iG prg 97 [(0,.int .u8 x0),(1,.int .i64 x1),(4,.agg [x40,x41,x42,x43,x44,x45,x46].toArray)]=some [.int .u8 x0,.int .i64 x1,.bool false,.int .u8 0,x40,x41,x42,x43,x44,x45,x46]:=by kernel_rfl
theorem IJ (x0:Int) (x2:Bool) (x3:Int) (x40 x41 x42 x43 x44 x45 x46:Value):iG prg 97 [(0,.int .u8 x0),(2,.bool x2),(3,.int .u8 x3),(4,.agg [x40,x41,x42,x43,x44,x45,x46].toArray)]=some [.int .u8 x0,.int .i64 0,.bool x2,.int .u8 x3,x40,x41,x42,x43,x44,x45,x46]:=by kernel_rfl
theorem xK (x0:Int) (x2:Bool) (x40 x41 x42 x43 x44 x45 x46:Value):iG prg 97 [(0,.int .u8 x0),(2,.bool x2),(4,.agg [x40,x41,x42,x43,x44,x45,x46].toArray)]=some [.int .u8 x0,.int .i64 0,.bool x2,.int .u8 0,x40,x41,x42,x43,x44,x45,x46]:=by kernel_rfl
theorem TH (x0:Int) (x40 x41 x42 x43 x44 x45 x46:Value):iG prg 97 [(0,.int .u8 x0),(4,.agg [x40,x41,x42,x43,x44,x45,x46].toArray)]=some [.int .u8 x0,.int .i64 0,.bool false,.int .u8 0,x40,x41,x42,x43,x44,x45,x46]:=by kernel_rfl
theorem ZP:cZ prg 106=true:=by kernel_rfl
theorem ND:cZ prg 111=true:=by kernel_rfl
theorem NC:cZ prg 115=true:=by kernel_rfl
theorem kJ:dZ prg 35 1=some 1:=by kernel_rfl
theorem EC (x0 x1:Bool):iG prg 179 [(0,.bool x0),(1,.bool x1)]=some [.bool x0,.bool x1,.int .u8 0,.string ⟨#[]⟩,.int .i64 0,.slice none 0 0,.int .u8 0,.string ⟨#[]⟩,.string ⟨#[]⟩,.int .i64 0,.int .i64 0,.slice none 0 0,.slice none 0 0]:=by kernel_rfl
theorem NM (x0:Int):iG prg 76 [(0,.int .u8 x0)]=some [.int .u8 x0,.string ⟨#[]⟩,.int .i64 0,.slice none 0 0]:=by kernel_rfl
theorem AS (x0 x2:Int):iG prg 76 [(0,.int .u8 x0),(2,.int .i64 x2)]=some [.int .u8 x0,.string ⟨#[]⟩,.int .i64 x2,.slice none 0 0]:=by kernel_rfl
theorem EZ (x0:Int):iG prg 97 [(0,.int .u8 x0)]=some [.int .u8 x0,.int .i64 0,.bool false,.int .u8 0,.int .u8 0,.string ⟨#[]⟩,.string ⟨#[]⟩,.int .i64 0,.int .i64 0,.slice none 0 0,.slice none 0 0]:=by kernel_rfl
theorem GV (x0 x1:Int):iG prg 97 [(0,.int .u8 x0),(1,.int .i64 x1)]=some [.int .u8 x0,.int .i64 x1,.bool false,.int .u8 0,.int .u8 0,.string ⟨#[]⟩,.string ⟨#[]⟩,.int .i64 0,.int .i64 0,.slice none 0 0,.slice none 0 0]:=by kernel_rfl
theorem IL:kS prg 157=some (some 7):=by kernel_rfl
theorem aP6:NW prg 200=some (19,7):=by kernel_rfl
theorem pD:cZ prg 102=true:=by kernel_rfl
theorem uZ:dZ prg 179 1=some 1:=by kernel_rfl
theorem aM5:hZ prg 95=some 1:=by kernel_rfl
theorem AI:hZ prg 157=some 7:=by kernel_rfl
theorem ES:pH prg 157=some
 [Go.Value.int Go.IntKind.u8 (Int.ofNat 0),Go.Value.bool false,Go.Value.bool false,
  Go.Value.bool false,Go.Value.bool false,Go.Value.int Go.IntKind.u8 (Int.ofNat 0),
  Go.Value.int Go.IntKind.u8 (Int.ofNat 0)]:=by kernel_rfl
theorem aP3  : iG prg 157 []=some [.int .u8 0,.bool false,.bool false,.bool false,.bool false,.int .u8 0,.int .u8 0]:=by kernel_rfl
theorem NI (x0 x1 x3:Int):iG prg 97 [(0,.int .u8 x0),(1,.int .i64 x1),(3,.int .u8 x3)]=some [.int .u8 x0,.int .i64 x1,.bool false,.int .u8 x3,.int .u8 0,.string ⟨#[]⟩,.string ⟨#[]⟩,.int .i64 0,.int .i64 0,.slice none 0 0,.slice none 0 0]:=by kernel_rfl
theorem kX:kS prg 31=some none:=by kernel_rfl
theorem rI:cZ prg 74=true:=by kernel_rfl
theorem gC:dZ prg 35 0=some 0:=by kernel_rfl
theorem qP:cZ prg 156=true:=by kernel_rfl
theorem cY:dZ prg 35 5=some 5:=by kernel_rfl
theorem EB:dZ prg 102 5=some 5:=by kernel_rfl
theorem OH (x1:Bool) (x30 x31 x32 x33 x34 x35 x36:Value):iG prg 179 [(1,.bool x1),(3,.agg [x30,x31,x32,x33,x34,x35,x36].toArray)]=some [.bool false,.bool x1,.int .u8 0,.string ⟨#[]⟩,.int .i64 0,.slice none 0 0,x30,x31,x32,x33,x34,x35,x36]:=by kernel_rfl
theorem NK (x0:Int) (x1:ByteArray) (x3p:Option Addr) (x3n x3c:Nat):iG prg 76 [(0,.int .u8 x0),(1,.string x1),(3,.slice x3p x3n x3c)]=some [.int .u8 x0,.string x1,.int .i64 0,.slice x3p x3n x3c]:=by kernel_rfl
theorem aQ4:kS prg 165=some (some 22):=by kernel_rfl
theorem aQ0:bD4 prg 165=true:=by kernel_rfl
theorem IK:NW prg 165=some (22,1):=by kernel_rfl
theorem aN0:cZ prg 99=true:=by kernel_rfl
theorem NF:cZ prg 101=true:=by kernel_rfl
theorem NE:cZ prg 103=true:=by kernel_rfl
theorem ZM:cZ prg 131=true:=by kernel_rfl
theorem aN5:cZ prg 78=true:=by kernel_rfl
theorem CZ:cZ prg 79=true:=by kernel_rfl
theorem qR:cZ prg 132=true:=by kernel_rfl
theorem qS:kS prg 33=some none:=by kernel_rfl
theorem DC:cZ prg 35=true:=by kernel_rfl
theorem rJ:cZ prg 71=true:=by kernel_rfl
theorem QI:cZ prg 72=true:=by kernel_rfl
theorem wO:cZ prg 75=true:=by kernel_rfl
theorem wN:cZ prg 76=true:=by kernel_rfl
theorem DW:dZ prg 157 1=some 1:=by kernel_rfl
theorem vD:dZ prg 157 2=some 2:=by kernel_rfl
theorem qD:slN prg 33=some 7:=by kernel_rfl
theorem bE2:pH prg 3=some [Go.Value.int Go.IntKind.i64 (Int.ofNat 0)]:=by kernel_rfl
theorem aN6:cZ prg 77=true:=by kernel_rfl
theorem aN4:cZ prg 80=true:=by kernel_rfl
theorem OE:dZ prg 157 0=some 0:=by kernel_rfl
theorem OD:dZ prg 157 3=some 3:=by kernel_rfl
theorem OC:dZ prg 157 4=some 4:=by kernel_rfl
theorem OB:dZ prg 157 5=some 5:=by kernel_rfl
theorem vB:dZ prg 157 6=some 6:=by kernel_rfl
theorem WO:yR prg 33=some (35,7,104):=by kernel_rfl
theorem aO7:cZ prg 34=true:=by kernel_rfl
theorem aO6:cZ prg 36=true:=by kernel_rfl
theorem aO5:cZ prg 37=true:=by kernel_rfl
theorem aO4:cZ prg 38=true:=by kernel_rfl
theorem QD:cZ prg 96=true:=by kernel_rfl
theorem ZI:cZ prg 147=true:=by kernel_rfl
theorem ZH:cZ prg 149=true:=by kernel_rfl
theorem JM (x0:Int) (x1:ByteArray) (x2:Int):iG prg 108 [(0,.int .u8 x0),(1,.string x1),(2,.int .i64 x2)]=some [.int .u8 x0,.string x1,.int .i64 x2]:=by kernel_rfl
theorem iD:kS prg 94=some none:=by kernel_rfl
theorem II:cZ prg 15=true:=by kernel_rfl
theorem aO1:cZ prg 54=true:=by kernel_rfl
theorem aO0:cZ prg 55=true:=by kernel_rfl
theorem aN9:cZ prg 56=true:=by kernel_rfl
theorem aN1:cZ prg 95=true:=by kernel_rfl
theorem WM:yR prg 99=some (108,3,32):=by kernel_rfl
theorem aM6:hZ prg 94=some 1:=by kernel_rfl
theorem QA:hZ prg 99=some 1:=by kernel_rfl
theorem aM4:pH prg 94=some [Go.Value.pointer none]:=by kernel_rfl
theorem WV (x2p:Option Addr) (x2n x2c:Nat):iG prg 102 [(2,.slice x2p x2n x2c)]=some [.slice none 0 0,.int .i64 0,.slice x2p x2n x2c,.slice none 0 0,.bool false,.bool false,.bool false,.int .i64 0,.int .i64 0]:=by kernel_rfl
theorem WU (x2:Int):iG prg 108 [(2,.int .i64 x2)]=some [.int .u8 0,.string ⟨#[]⟩,.int .i64 x2]:=by kernel_rfl
theorem zG  : iG prg 35 []=some [.int .u8 0,.string ⟨#[]⟩,.string ⟨#[]⟩,.int .i64 0,.int .i64 0,.slice none 0 0,.slice none 0 0]:=by kernel_rfl
theorem NG (x00 x01 x02:Value):wH prg 99 1 [(0,.agg [x00,x01,x02].toArray)]=some (108,[x00,x01,x02]):=by kernel_rfl
theorem sZ:cZ prg 89=true:=by kernel_rfl
theorem ZK:cZ prg 138=true:=by kernel_rfl
theorem EV:cZ prg 139=true:=by kernel_rfl
theorem MX:cZ prg 140=true:=by kernel_rfl
theorem DA:cZ prg 48=true:=by kernel_rfl
theorem AL:cZ prg 144=true:=by kernel_rfl
theorem aP7:NW prg 163=some (19,1):=by kernel_rfl
theorem aN3:cZ prg 90=true:=by kernel_rfl
theorem QF:cZ prg 91=true:=by kernel_rfl
theorem CW:cZ prg 92=true:=by kernel_rfl
theorem QE:cZ prg 93=true:=by kernel_rfl
theorem IG:cZ prg 19=true:=by kernel_rfl
theorem QS:cZ prg 26=true:=by kernel_rfl
def n13 (e:Ex):Bool:=decide (e.nm.length<=13)
theorem YU:∀ (f d:Nat),d+f=31->∀ (H:Hp) (l:List Nd) (v:Value) (w:World),Rep H (.seq 5 (l.map dNd)) [v]->Agr H w ->
 Calls prg 169 #[v,iN d] w λr w'=>∃ (y:List Value × Value) (H':Hp),(∃ (e:Ex) (rest:List Nd),Rep H' (dEx .i64 e) y.1/\BT d e/\Ex.all n13 e=true/\e.count+3 * rest.length<=3 * l.length+1/\Rep H' (.seq 5 (rest.map dNd)) [y.2])/\r=.returned (.tuple #[.agg y.1.toArray,y.2])/\xD H w H' w':=by
 intro f;induction f using Nat.strongRecOn with
 | _ f ih =>
  intro d hd H l v w h hA;obtain ⟨p,c,e,_⟩:=h.sl;simp only [gD,qV] at e;subst e;obtain ⟨n,hn⟩:∃ n,n=(l.map dNd).length:=⟨_,Z⟩;rw [<-hn] at h|-;have hnl:n=l.length:=by simpa using hn
  have hcap:=h.cap;refine Sx.enter (H:=H) func169 rfl ntmps169 rfl hA ?_;refine .sr<|.al iM Z λb4=>.aq Z<|.sq<|.sm Z<|.yw (.lenSl CG Z)<|.yw (.eql Z Z)<|.mv Z<|.e2 (λh15=>?_) (λh15=>?_)
  ·refine .gG<|.gG<|.yw (.pickT Z Z)<|.nt<|.cT Z<|.sr<|.yw (.build Z (NJ _))<|.mv Z<|.sW .head Z Z gP (by simp [Value.oneCell',cH,cNd]) Z<|.az Z<|.tR<|?_
   exact y7 Z (.cons (.cell Z dH Hm rfl) (.cons (.tmp Z) .nil)) rfl λW s=>⟨(_,_),H,⟨.mk 1 [] 0 [],l,rC (by decide) (Rep.empty (by decide)),LX (by omega),Z,(by rw [kC,Ex.counts];omega),h⟩,Z,.pure hA s.ext⟩
  refine .gy (.move Z)<|.gy (.gtr Z Z)<|.yw (.pickF Z Z)<|.nt<|.ce Z (λh18=>?_) (λh18=>?_)
  ·refine .sr<|.yw (.build Z (NJ _))<|.mv Z<|.sW .head Z Z gP (by simp [Value.oneCell',cH,cNd]) Z<|.az Z<|.tR<|?_
   exact y7 Z (.cons (.cell Z dH Hm rfl) (.cons (.tmp Z) .nil)) rfl λW s=>⟨(_,_),H,⟨.mk 1 [] 0 [],l,rC (by decide) (Rep.empty (by decide)),LX (by omega),Z,(by rw [kC,Ex.counts];omega),h⟩,Z,.pure hA s.ext⟩
  have hn0:0<n:=by omega
  obtain ⟨bE,oE,cE,hpE,rE,lE,mE⟩:=h.elem (fW (f:=dNd) (show 0<l.length by omega));subst hpE;generalize hx:l[0]=x at rE;obtain rfl:=bI4 rE;obtain ⟨op,hop⟩:∃ op:UInt8,op.toNat=x.op.toNat % 24:=⟨UInt8.ofNat (x.op.toNat % 24),by simp [mN];omega⟩;obtain ⟨m0,hm0,hm2⟩:∃ m0:Nat,max (arR op.toNat) 0=(m0:Int)/\m0<=2:=⟨(max (arR op.toNat) 0).toNat,by have:=aF8 op.toNat;omega,by have:=aF8 op.toNat;omega⟩;refine .sk<|.tN<|.sm Z<|.yw (.indexSl CG Z Z (i:=0) Z (by omega) (q:=oE+0 * 5) (by omega))<|.yw (.loadMW Z aQ1 mE Z)<|.al YZ Z λb6=>.sW .head Z Z ZB (by simp [Value.oneCell',cH,cNd]) Z<|.ns<|.mv Z<|.yw (.cutLo CG Z Z (lo:=1) Z (by omega) h.len.2.1)<|.a Z Z<|.ns<|.fA Z NZ<|.lD Z iP Hm Z<|.yw (.rem Z Z (by decide) (c:=((x.op.toNat % 24:Nat):Int)) (by rw [cW (by omega)];omega))<|.yw (.conv Z lJ lT (c:=((op.toNat:Nat):Int)) ((w6 (by omega)).trans (by rw [hop])))<|.fA Z nM<|.lD Z eS Hm Z<|.yw (.build Z (AP _ _))<|.al iM Z λb7=>.sW .head Z Z gP (by simp [Value.oneCell',cH,cNd]) Z<|.ns<|.fA Z cO<|.lD Z cC Hm Z<|.yw (.call MT Z (λW s=>PW H op.toNat W s.agr))<|.yw (.max2 Z Z (c:=((m0:Nat):Int)) hm0)<|.aq Z<|.cu (X:=Str) [(0,_),(1,_),(4,_),(6,_),(7,_),(8,_)] ⟨Z,Z,Z,Z,Z,Z,Jt⟩ (λnm=>[]) (λnm=>H) (λnm=>[.box b7 [.int .i64 op.toNat,cH nm,.int .i64 (x.n).toInt,.slice none 0 0] 83,.box b6 (cNd x) 240,.box b4 [.int .i64 0,.string ⟨#[]⟩,.int .i64 0,.slice none 0 0] 83]) (λnm=>nm.length<=13) ?_ λnm hC=>?_
  ·
   refine .sr<|.fA Z cO<|.lD Z cC Hm Z<|.yw (.geq Z Z)<|.mv Z<|.e2 (λh40=>?_) (λh40=>?_)
   ·refine .gy (.fieldAddr Z cO)<|.gy (.load Z cC Hm Z)<|.gy (.leq Z Z)<|.yw (.pickT Z Z)<|.nt<|.cd Z (λh44=>?_) (λh44=>?_)
    ·exact .rg<|.fA Z uW<|.lD Z iP dC Z<|.yw (.call jV Z (λW s=>mC H x.nm W s.agr))<|.fA Z dD<|.st .head Z Z fQ Z (nb Z) Z<|.nt<|.me _ trivial ⟨Z,Z,Z,Z,Z,Z,Jt⟩ (λ_ s=>s) (by first | exact eK _ | decide)
    exact .sk<|.tN<|.me _ trivial ⟨Z,Z,Z,Z,Z,Z,Jt⟩ (λ_ s=>s) (by first | exact eK _ | decide)
   exact .gG<|.gG<|.gG<|.yw (.pickF Z Z)<|.nt<|.cF Z<|.sk<|.tN<|.me _ trivial ⟨Z,Z,Z,Z,Z,Z,Jt⟩ (λ_ s=>s) (by first | exact eK _ | decide)
  have hnm:=hC;refine .cu (X:=Int64) [(0,_),(1,_),(4,_),(6,_),(7,_),(8,_)] ⟨Z,Z,Z,Z,Z,Z,Jt⟩ (λnn=>[]) (λnn=>H) (λnn=>[.box b7 [.int .i64 op.toNat,cH nm,.int .i64 (nn).toInt,.slice none 0 0] 83,.box b6 (cNd x) 240,.box b4 [.int .i64 0,.string ⟨#[]⟩,.int .i64 0,.slice none 0 0] 83]) (λnn=>True) ?_ λnn hC=>?_
  ·
   refine .sr<|.fA Z cO<|.lD Z cC Hm Z<|.yw (.neq Z Z)<|.nt<|.cd Z (λh51=>?_) (λh51=>?_)
   ·exact .rg<|.fA Z dO<|.st .head Z Z jD Z (nb Z) Z<|.nt<|.me 0 trivial ⟨Z,Z,Z,Z,Z,Z,Jt⟩ (λ_ s=>s) trivial
   exact .sk<|.tN<|.me x.n trivial ⟨Z,Z,Z,Z,Z,Z,Jt⟩ (λ_ s=>s) trivial
  refine .cu (X:=Nat × Str × Int64) [(0,_),(1,_),(4,_),(7,_)] ⟨Z,Z,Z,Z,Jt⟩ (λz=>[(8,iN z.1)]) (λz=>H) (λz=>[.box b7 [.int .i64 op.toNat,cH z.2.1,.int .i64 (z.2.2).toInt,.slice none 0 0] 83,.box b6 (cNd x) 240,.box b4 [.int .i64 0,.string ⟨#[]⟩,.int .i64 0,.slice none 0 0] 83]) (λz=>z.1<=3/\z.2.1.length<=13) ?_ λz hC=>?_
  ·
   refine .sr<|.fA Z NY<|.lD Z jO dC Z<|.nt<|.cd Z (λh54=>?_) (λh54=>?_)
   ·refine .sr<|.fA Z DU<|.lD Z iP dC Z<|.yw (.rem Z Z (by decide) (c:=((x.ct.toNat % 4:Nat):Int)) (by rw [cW (by omega)];omega))<|.yw (.conv Z lJ lT (c:=((x.ct.toNat % 4:Nat):Int)) (w6 (by omega)))<|.a Z Z<|.ns<|.fA Z DU<|.lD Z iP dC Z<|.yw (.rem Z Z (by decide) (c:=((x.ct.toNat % 5:Nat):Int)) (by rw [cW (by omega)];omega))<|.yw (.eql Z Z)<|.nt<|.cd Z (λh62=>?_) (λh62=>?_)
    ·refine .ar 9 #[false,false,false,false,false,false,false,false,false] (by kernel_rfl) Z Z<|.an 0 [3] (by kernel_rfl) ⟨?_,?_,Jt⟩
     ·
      refine .ao #[true,false,false,false,false,false,false,false,false] Z Z<|.fA Z uW<|.nx<|.an 1 [3] (by kernel_rfl) ⟨?_,?_,Jt⟩
      ·
       refine .ao #[true,true,false,false,false,false,false,false,false] Z Z<|.lD Z iP dC Z<|.nx<|.an 2 [3] (by kernel_rfl) ⟨?_,?_,Jt⟩
       ·
        refine .ao #[true,true,true,false,false,false,false,false,false] Z Z<|.yw (.call jV Z (λW s=>mC H x.nm W s.agr))<|.nx<|.an 3 [5] (by kernel_rfl) ⟨?_,?_,Jt⟩
        ·
         refine .ao #[true,true,true,true,false,false,false,false,false] Z Z<|.fA Z nM<|.nx<|.an 4 [5] (by kernel_rfl) ⟨?_,?_,Jt⟩
         ·
          refine .ao #[true,true,true,true,true,false,false,false,false] Z Z<|.lD Z eS dC Z<|.nx<|.an 5 [] (by kernel_rfl) ⟨?_,Jt⟩
          refine .ao #[true,true,true,true,true,true,false,false,false] Z Z<|.fA Z dD<|.nx<|.an 6 [] (by kernel_rfl) ⟨?_,Jt⟩
          refine .ao #[true,true,true,true,true,true,true,false,false] Z Z<|.st .head Z Z fQ Z (nb Z) Z<|.nx<|.an 7 [] (by kernel_rfl) ⟨?_,Jt⟩
          refine .ao #[true,true,true,true,true,true,true,true,false] Z Z<|.fA Z dO<|.nx<|.an 8 [] (by kernel_rfl) ⟨?_,Jt⟩
          exact .ao #[true,true,true,true,true,true,true,true,true] Z Z<|.st .head Z Z jD Z (nb Z) Z<|.nx<|.ae (by kernel_rfl)<|.tN<|.me (x.ct.toNat % 4,nU x.nm,x.n) ⟨Z,Jt⟩ ⟨Z,Z,Z,Z,Jt⟩ (λ_ s=>s) ⟨by dsimp only;omega,by dsimp only;first | exact eK _ | exact hnm⟩
         refine .ao #[true,true,true,true,false,true,false,false,false] Z Z<|.fA Z dD<|.nx<|.an 4 [6] (by kernel_rfl) ⟨?_,?_,Jt⟩
         ·
          refine .ao #[true,true,true,true,true,true,false,false,false] Z Z<|.lD Z eS dC Z<|.nx<|.an 6 [] (by kernel_rfl) ⟨?_,Jt⟩
          refine .ao #[true,true,true,true,true,true,true,false,false] Z Z<|.st .head Z Z fQ Z (nb Z) Z<|.nx<|.an 7 [] (by kernel_rfl) ⟨?_,Jt⟩
          refine .ao #[true,true,true,true,true,true,true,true,false] Z Z<|.fA Z dO<|.nx<|.an 8 [] (by kernel_rfl) ⟨?_,Jt⟩
          exact .ao #[true,true,true,true,true,true,true,true,true] Z Z<|.st .head Z Z jD Z (nb Z) Z<|.nx<|.ae (by kernel_rfl)<|.tN<|.me (x.ct.toNat % 4,nU x.nm,x.n) ⟨Z,Jt⟩ ⟨Z,Z,Z,Z,Jt⟩ (λ_ s=>s) ⟨by dsimp only;omega,by dsimp only;first | exact eK _ | exact hnm⟩
         refine .ao #[true,true,true,true,false,true,true,false,false] Z Z<|.st .head Z Z fQ Z (nb Z) Z<|.nx<|.an 4 [] (by kernel_rfl) ⟨?_,Jt⟩
         refine .ao #[true,true,true,true,true,true,true,false,false] Z Z<|.lD Z eS dC Z<|.nx<|.an 7 [] (by kernel_rfl) ⟨?_,Jt⟩
         refine .ao #[true,true,true,true,true,true,true,true,false] Z Z<|.fA Z dO<|.nx<|.an 8 [] (by kernel_rfl) ⟨?_,Jt⟩
         exact .ao #[true,true,true,true,true,true,true,true,true] Z Z<|.st .head Z Z jD Z (nb Z) Z<|.nx<|.ae (by kernel_rfl)<|.tN<|.me (x.ct.toNat % 4,nU x.nm,x.n) ⟨Z,Jt⟩ ⟨Z,Z,Z,Z,Jt⟩ (λ_ s=>s) ⟨by dsimp only;omega,by dsimp only;first | exact eK _ | exact hnm⟩
        refine .ao #[true,true,true,false,false,true,false,false,false] Z Z<|.fA Z dD<|.nx<|.an 3 [6] (by kernel_rfl) ⟨?_,?_,Jt⟩
        ·
         refine .ao #[true,true,true,true,false,true,false,false,false] Z Z<|.fA Z nM<|.nx<|.an 4 [6] (by kernel_rfl) ⟨?_,?_,Jt⟩
         ·
          refine .ao #[true,true,true,true,true,true,false,false,false] Z Z<|.lD Z eS dC Z<|.nx<|.an 6 [] (by kernel_rfl) ⟨?_,Jt⟩
          refine .ao #[true,true,true,true,true,true,true,false,false] Z Z<|.st .head Z Z fQ Z (nb Z) Z<|.nx<|.an 7 [] (by kernel_rfl) ⟨?_,Jt⟩
          refine .ao #[true,true,true,true,true,true,true,true,false] Z Z<|.fA Z dO<|.nx<|.an 8 [] (by kernel_rfl) ⟨?_,Jt⟩
          exact .ao #[true,true,true,true,true,true,true,true,true] Z Z<|.st .head Z Z jD Z (nb Z) Z<|.nx<|.ae (by kernel_rfl)<|.tN<|.me (x.ct.toNat % 4,nU x.nm,x.n) ⟨Z,Jt⟩ ⟨Z,Z,Z,Z,Jt⟩ (λ_ s=>s) ⟨by dsimp only;omega,by dsimp only;first | exact eK _ | exact hnm⟩
         refine .ao #[true,true,true,true,false,true,true,false,false] Z Z<|.st .head Z Z fQ Z (nb Z) Z<|.nx<|.an 4 [] (by kernel_rfl) ⟨?_,Jt⟩
         refine .ao #[true,true,true,true,true,true,true,false,false] Z Z<|.lD Z eS dC Z<|.nx<|.an 7 [] (by kernel_rfl) ⟨?_,Jt⟩
         refine .ao #[true,true,true,true,true,true,true,true,false] Z Z<|.fA Z dO<|.nx<|.an 8 [] (by kernel_rfl) ⟨?_,Jt⟩
         exact .ao #[true,true,true,true,true,true,true,true,true] Z Z<|.st .head Z Z jD Z (nb Z) Z<|.nx<|.ae (by kernel_rfl)<|.tN<|.me (x.ct.toNat % 4,nU x.nm,x.n) ⟨Z,Jt⟩ ⟨Z,Z,Z,Z,Jt⟩ (λ_ s=>s) ⟨by dsimp only;omega,by dsimp only;first | exact eK _ | exact hnm⟩
        refine .ao #[true,true,true,false,false,true,true,false,false] Z Z<|.st .head Z Z fQ Z (nb Z) Z<|.nx<|.an 3 [] (by kernel_rfl) ⟨?_,Jt⟩
        refine .ao #[true,true,true,true,false,true,true,false,false] Z Z<|.fA Z nM<|.nx<|.an 4 [] (by kernel_rfl) ⟨?_,Jt⟩
        refine .ao #[true,true,true,true,true,true,true,false,false] Z Z<|.lD Z eS dC Z<|.nx<|.an 7 [] (by kernel_rfl) ⟨?_,Jt⟩
        refine .ao #[true,true,true,true,true,true,true,true,false] Z Z<|.fA Z dO<|.nx<|.an 8 [] (by kernel_rfl) ⟨?_,Jt⟩
        exact .ao #[true,true,true,true,true,true,true,true,true] Z Z<|.st .head Z Z jD Z (nb Z) Z<|.nx<|.ae (by kernel_rfl)<|.tN<|.me (x.ct.toNat % 4,nU x.nm,x.n) ⟨Z,Jt⟩ ⟨Z,Z,Z,Z,Jt⟩ (λ_ s=>s) ⟨by dsimp only;omega,by dsimp only;first | exact eK _ | exact hnm⟩
       refine .ao #[true,true,false,true,false,false,false,false,false] Z Z<|.fA Z nM<|.nx<|.an 2 [4] (by kernel_rfl) ⟨?_,?_,Jt⟩
       ·
        refine .ao #[true,true,true,true,false,false,false,false,false] Z Z<|.yw (.call jV Z (λW s=>mC H x.nm W s.agr))<|.nx<|.an 4 [5] (by kernel_rfl) ⟨?_,?_,Jt⟩
        ·
         refine .ao #[true,true,true,true,true,false,false,false,false] Z Z<|.lD Z eS dC Z<|.nx<|.an 5 [] (by kernel_rfl) ⟨?_,Jt⟩
         refine .ao #[true,true,true,true,true,true,false,false,false] Z Z<|.fA Z dD<|.nx<|.an 6 [] (by kernel_rfl) ⟨?_,Jt⟩
         refine .ao #[true,true,true,true,true,true,true,false,false] Z Z<|.st .head Z Z fQ Z (nb Z) Z<|.nx<|.an 7 [] (by kernel_rfl) ⟨?_,Jt⟩
         refine .ao #[true,true,true,true,true,true,true,true,false] Z Z<|.fA Z dO<|.nx<|.an 8 [] (by kernel_rfl) ⟨?_,Jt⟩
         exact .ao #[true,true,true,true,true,true,true,true,true] Z Z<|.st .head Z Z jD Z (nb Z) Z<|.nx<|.ae (by kernel_rfl)<|.tN<|.me (x.ct.toNat % 4,nU x.nm,x.n) ⟨Z,Jt⟩ ⟨Z,Z,Z,Z,Jt⟩ (λ_ s=>s) ⟨by dsimp only;omega,by dsimp only;first | exact eK _ | exact hnm⟩
        refine .ao #[true,true,true,true,false,true,false,false,false] Z Z<|.fA Z dD<|.nx<|.an 4 [6] (by kernel_rfl) ⟨?_,?_,Jt⟩
        ·
         refine .ao #[true,true,true,true,true,true,false,false,false] Z Z<|.lD Z eS dC Z<|.nx<|.an 6 [] (by kernel_rfl) ⟨?_,Jt⟩
         refine .ao #[true,true,true,true,true,true,true,false,false] Z Z<|.st .head Z Z fQ Z (nb Z) Z<|.nx<|.an 7 [] (by kernel_rfl) ⟨?_,Jt⟩
         refine .ao #[true,true,true,true,true,true,true,true,false] Z Z<|.fA Z dO<|.nx<|.an 8 [] (by kernel_rfl) ⟨?_,Jt⟩
         exact .ao #[true,true,true,true,true,true,true,true,true] Z Z<|.st .head Z Z jD Z (nb Z) Z<|.nx<|.ae (by kernel_rfl)<|.tN<|.me (x.ct.toNat % 4,nU x.nm,x.n) ⟨Z,Jt⟩ ⟨Z,Z,Z,Z,Jt⟩ (λ_ s=>s) ⟨by dsimp only;omega,by dsimp only;first | exact eK _ | exact hnm⟩
        refine .ao #[true,true,true,true,false,true,true,false,false] Z Z<|.st .head Z Z fQ Z (nb Z) Z<|.nx<|.an 4 [] (by kernel_rfl) ⟨?_,Jt⟩
        refine .ao #[true,true,true,true,true,true,true,false,false] Z Z<|.lD Z eS dC Z<|.nx<|.an 7 [] (by kernel_rfl) ⟨?_,Jt⟩
        refine .ao #[true,true,true,true,true,true,true,true,false] Z Z<|.fA Z dO<|.nx<|.an 8 [] (by kernel_rfl) ⟨?_,Jt⟩
        exact .ao #[true,true,true,true,true,true,true,true,true] Z Z<|.st .head Z Z jD Z (nb Z) Z<|.nx<|.ae (by kernel_rfl)<|.tN<|.me (x.ct.toNat % 4,nU x.nm,x.n) ⟨Z,Jt⟩ ⟨Z,Z,Z,Z,Jt⟩ (λ_ s=>s) ⟨by dsimp only;omega,by dsimp only;first | exact eK _ | exact hnm⟩
       refine .ao #[true,true,false,true,true,false,false,false,false] Z Z<|.lD Z eS dC Z<|.nx<|.an 2 [] (by kernel_rfl) ⟨?_,Jt⟩
       refine .ao #[true,true,true,true,true,false,false,false,false] Z Z<|.yw (.call jV Z (λW s=>mC H x.nm W s.agr))<|.nx<|.an 5 [] (by kernel_rfl) ⟨?_,Jt⟩
       refine .ao #[true,true,true,true,true,true,false,false,false] Z Z<|.fA Z dD<|.nx<|.an 6 [] (by kernel_rfl) ⟨?_,Jt⟩
       refine .ao #[true,true,true,true,true,true,true,false,false] Z Z<|.st .head Z Z fQ Z (nb Z) Z<|.nx<|.an 7 [] (by kernel_rfl) ⟨?_,Jt⟩
       refine .ao #[true,true,true,true,true,true,true,true,false] Z Z<|.fA Z dO<|.nx<|.an 8 [] (by kernel_rfl) ⟨?_,Jt⟩
       exact .ao #[true,true,true,true,true,true,true,true,true] Z Z<|.st .head Z Z jD Z (nb Z) Z<|.nx<|.ae (by kernel_rfl)<|.tN<|.me (x.ct.toNat % 4,nU x.nm,x.n) ⟨Z,Jt⟩ ⟨Z,Z,Z,Z,Jt⟩ (λ_ s=>s) ⟨by dsimp only;omega,by dsimp only;first | exact eK _ | exact hnm⟩
      refine .ao #[true,false,false,true,false,false,false,false,false] Z Z<|.fA Z nM<|.nx<|.an 1 [4] (by kernel_rfl) ⟨?_,?_,Jt⟩
      ·
       refine .ao #[true,true,false,true,false,false,false,false,false] Z Z<|.lD Z iP dC Z<|.nx<|.an 2 [4] (by kernel_rfl) ⟨?_,?_,Jt⟩
       ·
        refine .ao #[true,true,true,true,false,false,false,false,false] Z Z<|.yw (.call jV Z (λW s=>mC H x.nm W s.agr))<|.nx<|.an 4 [5] (by kernel_rfl) ⟨?_,?_,Jt⟩
        ·
         refine .ao #[true,true,true,true,true,false,false,false,false] Z Z<|.lD Z eS dC Z<|.nx<|.an 5 [] (by kernel_rfl) ⟨?_,Jt⟩
         refine .ao #[true,true,true,true,true,true,false,false,false] Z Z<|.fA Z dD<|.nx<|.an 6 [] (by kernel_rfl) ⟨?_,Jt⟩
         refine .ao #[true,true,true,true,true,true,true,false,false] Z Z<|.st .head Z Z fQ Z (nb Z) Z<|.nx<|.an 7 [] (by kernel_rfl) ⟨?_,Jt⟩
         refine .ao #[true,true,true,true,true,true,true,true,false] Z Z<|.fA Z dO<|.nx<|.an 8 [] (by kernel_rfl) ⟨?_,Jt⟩
         exact .ao #[true,true,true,true,true,true,true,true,true] Z Z<|.st .head Z Z jD Z (nb Z) Z<|.nx<|.ae (by kernel_rfl)<|.tN<|.me (x.ct.toNat % 4,nU x.nm,x.n) ⟨Z,Jt⟩ ⟨Z,Z,Z,Z,Jt⟩ (λ_ s=>s) ⟨by dsimp only;omega,by dsimp only;first | exact eK _ | exact hnm⟩
        refine .ao #[true,true,true,true,false,true,false,false,false] Z Z<|.fA Z dD<|.nx<|.an 4 [6] (by kernel_rfl) ⟨?_,?_,Jt⟩
        ·
         refine .ao #[true,true,true,true,true,true,false,false,false] Z Z<|.lD Z eS dC Z<|.nx<|.an 6 [] (by kernel_rfl) ⟨?_,Jt⟩
         refine .ao #[true,true,true,true,true,true,true,false,false] Z Z<|.st .head Z Z fQ Z (nb Z) Z<|.nx<|.an 7 [] (by kernel_rfl) ⟨?_,Jt⟩
         refine .ao #[true,true,true,true,true,true,true,true,false] Z Z<|.fA Z dO<|.nx<|.an 8 [] (by kernel_rfl) ⟨?_,Jt⟩
         exact .ao #[true,true,true,true,true,true,true,true,true] Z Z<|.st .head Z Z jD Z (nb Z) Z<|.nx<|.ae (by kernel_rfl)<|.tN<|.me (x.ct.toNat % 4,nU x.nm,x.n) ⟨Z,Jt⟩ ⟨Z,Z,Z,Z,Jt⟩ (λ_ s=>s) ⟨by dsimp only;omega,by dsimp only;first | exact eK _ | exact hnm⟩
        refine .ao #[true,true,true,true,false,true,true,false,false] Z Z<|.st .head Z Z fQ Z (nb Z) Z<|.nx<|.an 4 [] (by kernel_rfl) ⟨?_,Jt⟩
        refine .ao #[true,true,true,true,true,true,true,false,false] Z Z<|.lD Z eS dC Z<|.nx<|.an 7 [] (by kernel_rfl) ⟨?_,Jt⟩
        refine .ao #[true,true,true,true,true,true,true,true,false] Z Z<|.fA Z dO<|.nx<|.an 8 [] (by kernel_rfl) ⟨?_,Jt⟩
        exact .ao #[true,true,true,true,true,true,true,true,true] Z Z<|.st .head Z Z jD Z (nb Z) Z<|.nx<|.ae (by kernel_rfl)<|.tN<|.me (x.ct.toNat % 4,nU x.nm,x.n) ⟨Z,Jt⟩ ⟨Z,Z,Z,Z,Jt⟩ (λ_ s=>s) ⟨by dsimp only;omega,by dsimp only;first | exact eK _ | exact hnm⟩
       refine .ao #[true,true,false,true,true,false,false,false,false] Z Z<|.lD Z eS dC Z<|.nx<|.an 2 [] (by kernel_rfl) ⟨?_,Jt⟩
       refine .ao #[true,true,true,true,true,false,false,false,false] Z Z<|.yw (.call jV Z (λW s=>mC H x.nm W s.agr))<|.nx<|.an 5 [] (by kernel_rfl) ⟨?_,Jt⟩
       refine .ao #[true,true,true,true,true,true,false,false,false] Z Z<|.fA Z dD<|.nx<|.an 6 [] (by kernel_rfl) ⟨?_,Jt⟩
       refine .ao #[true,true,true,true,true,true,true,false,false] Z Z<|.st .head Z Z fQ Z (nb Z) Z<|.nx<|.an 7 [] (by kernel_rfl) ⟨?_,Jt⟩
       refine .ao #[true,true,true,true,true,true,true,true,false] Z Z<|.fA Z dO<|.nx<|.an 8 [] (by kernel_rfl) ⟨?_,Jt⟩
       exact .ao #[true,true,true,true,true,true,true,true,true] Z Z<|.st .head Z Z jD Z (nb Z) Z<|.nx<|.ae (by kernel_rfl)<|.tN<|.me (x.ct.toNat % 4,nU x.nm,x.n) ⟨Z,Jt⟩ ⟨Z,Z,Z,Z,Jt⟩ (λ_ s=>s) ⟨by dsimp only;omega,by dsimp only;first | exact eK _ | exact hnm⟩
      refine .ao #[true,false,false,true,true,false,false,false,false] Z Z<|.lD Z eS dC Z<|.nx<|.an 1 [] (by kernel_rfl) ⟨?_,Jt⟩
      refine .ao #[true,true,false,true,true,false,false,false,false] Z Z<|.lD Z iP dC Z<|.nx<|.an 2 [] (by kernel_rfl) ⟨?_,Jt⟩
      refine .ao #[true,true,true,true,true,false,false,false,false] Z Z<|.yw (.call jV Z (λW s=>mC H x.nm W s.agr))<|.nx<|.an 5 [] (by kernel_rfl) ⟨?_,Jt⟩
      refine .ao #[true,true,true,true,true,true,false,false,false] Z Z<|.fA Z dD<|.nx<|.an 6 [] (by kernel_rfl) ⟨?_,Jt⟩
      refine .ao #[true,true,true,true,true,true,true,false,false] Z Z<|.st .head Z Z fQ Z (nb Z) Z<|.nx<|.an 7 [] (by kernel_rfl) ⟨?_,Jt⟩
      refine .ao #[true,true,true,true,true,true,true,true,false] Z Z<|.fA Z dO<|.nx<|.an 8 [] (by kernel_rfl) ⟨?_,Jt⟩
      exact .ao #[true,true,true,true,true,true,true,true,true] Z Z<|.st .head Z Z jD Z (nb Z) Z<|.nx<|.ae (by kernel_rfl)<|.tN<|.me (x.ct.toNat % 4,nU x.nm,x.n) ⟨Z,Jt⟩ ⟨Z,Z,Z,Z,Jt⟩ (λ_ s=>s) ⟨by dsimp only;omega,by dsimp only;first | exact eK _ | exact hnm⟩
     refine .ao #[false,false,false,true,false,false,false,false,false] Z Z<|.fA Z nM<|.nx<|.an 0 [4] (by kernel_rfl) ⟨?_,?_,Jt⟩
     ·
      refine .ao #[true,false,false,true,false,false,false,false,false] Z Z<|.fA Z uW<|.nx<|.an 1 [4] (by kernel_rfl) ⟨?_,?_,Jt⟩
      ·
       refine .ao #[true,true,false,true,false,false,false,false,false] Z Z<|.lD Z iP dC Z<|.nx<|.an 2 [4] (by kernel_rfl) ⟨?_,?_,Jt⟩
       ·
        refine .ao #[true,true,true,true,false,false,false,false,false] Z Z<|.yw (.call jV Z (λW s=>mC H x.nm W s.agr))<|.nx<|.an 4 [5] (by kernel_rfl) ⟨?_,?_,Jt⟩
        ·
         refine .ao #[true,true,true,true,true,false,false,false,false] Z Z<|.lD Z eS dC Z<|.nx<|.an 5 [] (by kernel_rfl) ⟨?_,Jt⟩
         refine .ao #[true,true,true,true,true,true,false,false,false] Z Z<|.fA Z dD<|.nx<|.an 6 [] (by kernel_rfl) ⟨?_,Jt⟩
         refine .ao #[true,true,true,true,true,true,true,false,false] Z Z<|.st .head Z Z fQ Z (nb Z) Z<|.nx<|.an 7 [] (by kernel_rfl) ⟨?_,Jt⟩
         refine .ao #[true,true,true,true,true,true,true,true,false] Z Z<|.fA Z dO<|.nx<|.an 8 [] (by kernel_rfl) ⟨?_,Jt⟩
         exact .ao #[true,true,true,true,true,true,true,true,true] Z Z<|.st .head Z Z jD Z (nb Z) Z<|.nx<|.ae (by kernel_rfl)<|.tN<|.me (x.ct.toNat % 4,nU x.nm,x.n) ⟨Z,Jt⟩ ⟨Z,Z,Z,Z,Jt⟩ (λ_ s=>s) ⟨by dsimp only;omega,by dsimp only;first | exact eK _ | exact hnm⟩
        refine .ao #[true,true,true,true,false,true,false,false,false] Z Z<|.fA Z dD<|.nx<|.an 4 [6] (by kernel_rfl) ⟨?_,?_,Jt⟩
        ·
         refine .ao #[true,true,true,true,true,true,false,false,false] Z Z<|.lD Z eS dC Z<|.nx<|.an 6 [] (by kernel_rfl) ⟨?_,Jt⟩
         refine .ao #[true,true,true,true,true,true,true,false,false] Z Z<|.st .head Z Z fQ Z (nb Z) Z<|.nx<|.an 7 [] (by kernel_rfl) ⟨?_,Jt⟩
         refine .ao #[true,true,true,true,true,true,true,true,false] Z Z<|.fA Z dO<|.nx<|.an 8 [] (by kernel_rfl) ⟨?_,Jt⟩
         exact .ao #[true,true,true,true,true,true,true,true,true] Z Z<|.st .head Z Z jD Z (nb Z) Z<|.nx<|.ae (by kernel_rfl)<|.tN<|.me (x.ct.toNat % 4,nU x.nm,x.n) ⟨Z,Jt⟩ ⟨Z,Z,Z,Z,Jt⟩ (λ_ s=>s) ⟨by dsimp only;omega,by dsimp only;first | exact eK _ | exact hnm⟩
        refine .ao #[true,true,true,true,false,true,true,false,false] Z Z<|.st .head Z Z fQ Z (nb Z) Z<|.nx<|.an 4 [] (by kernel_rfl) ⟨?_,Jt⟩
        refine .ao #[true,true,true,true,true,true,true,false,false] Z Z<|.lD Z eS dC Z<|.nx<|.an 7 [] (by kernel_rfl) ⟨?_,Jt⟩
        refine .ao #[true,true,true,true,true,true,true,true,false] Z Z<|.fA Z dO<|.nx<|.an 8 [] (by kernel_rfl) ⟨?_,Jt⟩
        exact .ao #[true,true,true,true,true,true,true,true,true] Z Z<|.st .head Z Z jD Z (nb Z) Z<|.nx<|.ae (by kernel_rfl)<|.tN<|.me (x.ct.toNat % 4,nU x.nm,x.n) ⟨Z,Jt⟩ ⟨Z,Z,Z,Z,Jt⟩ (λ_ s=>s) ⟨by dsimp only;omega,by dsimp only;first | exact eK _ | exact hnm⟩
       refine .ao #[true,true,false,true,true,false,false,false,false] Z Z<|.lD Z eS dC Z<|.nx<|.an 2 [] (by kernel_rfl) ⟨?_,Jt⟩
       refine .ao #[true,true,true,true,true,false,false,false,false] Z Z<|.yw (.call jV Z (λW s=>mC H x.nm W s.agr))<|.nx<|.an 5 [] (by kernel_rfl) ⟨?_,Jt⟩
       refine .ao #[true,true,true,true,true,true,false,false,false] Z Z<|.fA Z dD<|.nx<|.an 6 [] (by kernel_rfl) ⟨?_,Jt⟩
       refine .ao #[true,true,true,true,true,true,true,false,false] Z Z<|.st .head Z Z fQ Z (nb Z) Z<|.nx<|.an 7 [] (by kernel_rfl) ⟨?_,Jt⟩
       refine .ao #[true,true,true,true,true,true,true,true,false] Z Z<|.fA Z dO<|.nx<|.an 8 [] (by kernel_rfl) ⟨?_,Jt⟩
       exact .ao #[true,true,true,true,true,true,true,true,true] Z Z<|.st .head Z Z jD Z (nb Z) Z<|.nx<|.ae (by kernel_rfl)<|.tN<|.me (x.ct.toNat % 4,nU x.nm,x.n) ⟨Z,Jt⟩ ⟨Z,Z,Z,Z,Jt⟩ (λ_ s=>s) ⟨by dsimp only;omega,by dsimp only;first | exact eK _ | exact hnm⟩
      refine .ao #[true,false,false,true,true,false,false,false,false] Z Z<|.lD Z eS dC Z<|.nx<|.an 1 [] (by kernel_rfl) ⟨?_,Jt⟩
      refine .ao #[true,true,false,true,true,false,false,false,false] Z Z<|.lD Z iP dC Z<|.nx<|.an 2 [] (by kernel_rfl) ⟨?_,Jt⟩
      refine .ao #[true,true,true,true,true,false,false,false,false] Z Z<|.yw (.call jV Z (λW s=>mC H x.nm W s.agr))<|.nx<|.an 5 [] (by kernel_rfl) ⟨?_,Jt⟩
      refine .ao #[true,true,true,true,true,true,false,false,false] Z Z<|.fA Z dD<|.nx<|.an 6 [] (by kernel_rfl) ⟨?_,Jt⟩
      refine .ao #[true,true,true,true,true,true,true,false,false] Z Z<|.st .head Z Z fQ Z (nb Z) Z<|.nx<|.an 7 [] (by kernel_rfl) ⟨?_,Jt⟩
      refine .ao #[true,true,true,true,true,true,true,true,false] Z Z<|.fA Z dO<|.nx<|.an 8 [] (by kernel_rfl) ⟨?_,Jt⟩
      exact .ao #[true,true,true,true,true,true,true,true,true] Z Z<|.st .head Z Z jD Z (nb Z) Z<|.nx<|.ae (by kernel_rfl)<|.tN<|.me (x.ct.toNat % 4,nU x.nm,x.n) ⟨Z,Jt⟩ ⟨Z,Z,Z,Z,Jt⟩ (λ_ s=>s) ⟨by dsimp only;omega,by dsimp only;first | exact eK _ | exact hnm⟩
     refine .ao #[false,false,false,true,true,false,false,false,false] Z Z<|.lD Z eS dC Z<|.nx<|.an 0 [] (by kernel_rfl) ⟨?_,Jt⟩
     refine .ao #[true,false,false,true,true,false,false,false,false] Z Z<|.fA Z uW<|.nx<|.an 1 [] (by kernel_rfl) ⟨?_,Jt⟩
     refine .ao #[true,true,false,true,true,false,false,false,false] Z Z<|.lD Z iP dC Z<|.nx<|.an 2 [] (by kernel_rfl) ⟨?_,Jt⟩
     refine .ao #[true,true,true,true,true,false,false,false,false] Z Z<|.yw (.call jV Z (λW s=>mC H x.nm W s.agr))<|.nx<|.an 5 [] (by kernel_rfl) ⟨?_,Jt⟩
     refine .ao #[true,true,true,true,true,true,false,false,false] Z Z<|.fA Z dD<|.nx<|.an 6 [] (by kernel_rfl) ⟨?_,Jt⟩
     refine .ao #[true,true,true,true,true,true,true,false,false] Z Z<|.st .head Z Z fQ Z (nb Z) Z<|.nx<|.an 7 [] (by kernel_rfl) ⟨?_,Jt⟩
     refine .ao #[true,true,true,true,true,true,true,true,false] Z Z<|.fA Z dO<|.nx<|.an 8 [] (by kernel_rfl) ⟨?_,Jt⟩
     exact .ao #[true,true,true,true,true,true,true,true,true] Z Z<|.st .head Z Z jD Z (nb Z) Z<|.nx<|.ae (by kernel_rfl)<|.tN<|.me (x.ct.toNat % 4,nU x.nm,x.n) ⟨Z,Jt⟩ ⟨Z,Z,Z,Z,Jt⟩ (λ_ s=>s) ⟨by dsimp only;omega,by dsimp only;first | exact eK _ | exact hnm⟩
    exact .sk<|.tN<|.me (x.ct.toNat % 4,nm,nn) ⟨Z,Jt⟩ ⟨Z,Z,Z,Z,Jt⟩ (λ_ s=>s) ⟨by dsimp only;omega,by dsimp only;first | exact eK _ | exact hnm⟩
   exact .sk<|.tN<|.me (m0,nm,nn) ⟨Z,Jt⟩ ⟨Z,Z,Z,Z,Jt⟩ (λ_ s=>s) ⟨by dsimp only;omega,by dsimp only;first | exact eK _ | exact hnm⟩
  obtain ⟨m,nm,nn⟩:=z;dsimp only at hC|-;obtain ⟨hm3,hnm⟩:=hC;refine Sx.row0 83 4 ?_;refine .sq<|.sr<|.aq Z<|.bk<|.lp (X:=Nat × Hp × Value × List Value × Value) [(1,_),(4,_),(7,_),(8,_)] ⟨Z,Z,Z,Z,Jt⟩ [_,_] (λz=>[(9,iN z.1),(0,z.2.2.2.2)]) (λz=>z.2.1) (λz=>[.row 83 4 z.2.2.1 z.1 z.2.2.2.1,.box b7 [.int .i64 op.toNat,cH nm,.int .i64 (nn).toInt,z.2.2.1] 83]) (λz=>z.1<=m/\HUp w H z.2.1/\∃ (es:List Ex) (rest:List Nd),es.length=z.1/\eR z.2.1 4 (es.map (dEx .i64)) z.2.2.2.1/\HI d es/\Ex.alls n13 es=true/\Ex.counts es+3 * rest.length+3<=3 * l.length+es.length/\Rep z.2.1 (.seq 5 (rest.map dNd)) [z.2.2.2.2]) (λz=>m - z.1) (0,H,.slice none 0 0,[],_) (λ_ s=>s) ⟨Z,Z,Jt⟩ ⟨by simp,.refl,[],l.drop 1,Z,eR.nil,YG d,Z,(by rw [Ex.counts,cM,aL];omega),(by have h5:=UJ h (lo:=1) (by omega);rw [<-zK] at h5;exact h5)⟩ λz hC=>?_
  obtain ⟨k,H1,r,xs,rv⟩:=z;dsimp only at hC|-;obtain ⟨hk0,u1,es,rest,hlen,hz,hgs,h13,hcn,hrs⟩:=hC;refine .sq<|.sm Z<|.mv Z<|.yw (.lss Z Z)<|.nt<|.ce Z (λh72=>?_) (λh72=>?_)
  ·have hk:k<m:=by omega
   refine .sk<|.tN<|.sq<|.bk<|.sm Z<|.mv Z<|.yw (.add Z Z w7)<|.ct (X:=List Value × Value) MU Z (λW s=>ih (f - 1) (by omega) (d+1) (by omega) H1 _ _ W hrs s.agr) Z λy2 H2 hc2 u2=>?_
   obtain ⟨x2,y2⟩:=y2;obtain ⟨x2e,rest2,hc2,hg2,h132,hcn2,hrs2⟩:=hc2;dsimp only at hc2 hrs2|-;obtain ⟨op2,nm2,n2,qC⟩:=x2e;obtain ⟨p2,c2,rfl,hs2,hnm2⟩:=fX hc2;refine .mv Z<|.yw (.extract Z Z)<|.yw (.extract Z Z)<|.al iM Z λb10=>.sW .head Z Z gP (by simp [Value.oneCell',cH,cNd]) Z<|.aq Z<|.rg<|.fA Z fG<|.lD Z eQ nL Z<|.yw (.loadW Z dH Hm Z)<|.bl Z (sN _ _ _ _) Z λb85=>.ap (news:=[.int .i64 op2.toNat,cH nm2,.int .i64 n2.toInt,.slice p2 qC.length c2]) GR Z (λ_=>oV) Z (.box Hm z0) Z (by simp [Value.oneCell',cH]) (by simp [maxLen];omega) (by omega) Z λr86 _=>?_
   refine At.ra (by first | exact .tail _ (.tail _ Hm) | exact .tail _ (.tail _ (.tail _ Hm))) λp86 c86 e86=>?_;exact .mv Z<|.fA Z fG<|.st qF Z Z uQ (by rw [e86];rfl) (nb Z) Z<|.a Z Z<|.nl<|.bN<|.tN<|.rg<|.mv Z<|.yw (.add Z Z w7)<|.aq Z<|.ag (x:=(k,H1,r,xs,rv)) (k+1,H2,r86,xs++[.int .i64 op2.toNat,cH nm2,.int .i64 n2.toInt,.slice p2 qC.length c2],y2) ⟨Z,Z,Jt⟩ ⟨Z,Z,Z,Z,Jt⟩ (λ_ s=>(s.pick [2,3,4,5] _ Z Z)) ⟨by dsimp only;omega,u1.trans u2,es++[.mk op2 nm2 n2 qC],rest2,by simp;omega,by rw [cL];exact (hz.up u2.up).snoc hc2 Z,VL hgs hg2,(by rw [GO,h13,Ex.alls,h132];rfl),(by rw [lU,Ex.counts,Ex.counts,aH];simp only [aI,aL];omega),hrs2⟩ (by dsimp only;omega)
  obtain rfl:k=m:=by omega
  refine At.ra Hm λp86 c86 e86=>?_;subst e86;refine .ex<|.eb<|.sr<|.yw (.loadW Z dH dC Z)<|.mv Z<|.sW qF Z Z gP (by simp [Value.oneCell',cH,cNd]) Z<|.az Z<|?_
  refine At.pm [0,3] [_,_] rfl rfl ?_;refine lY (ds:=es.map (dEx .i64)) (by simp;omega) hz λH3 p3 c3 u3 hr3 hs3=>?_;refine y7 Z (.cons (.cell Z dH Hm rfl) (.cons (.tmp Z) .nil)) rfl λW s=>⟨(_,_),H3,⟨_,rest,rC (by omega) hs3,?_,?_,?_,hrs.up u3.up⟩,Z,(u1.trans u3).grow s⟩
  ·rw [aY4];exact ⟨by omega,hgs⟩
  ·rw [lS,h13,aC];exact aK hnm
  ·rw [kC];omega
def bW4 (x:List Value) (H':Hp):Prop:=∃ e:Ex,Rep H' (dEx .i64 e) x/\BT 1 e/\Ex.all n13 e=true/\e.count<=181
variable {H:Hp}
theorem KH {k:IntKind} {e:Ex} {cs:List Value} (h:Rep H (dEx k e) cs):cs.length=4:=by
 obtain ⟨op,nm,n,args⟩:=e;obtain ⟨_,_,rfl,_,_⟩:=fX h
 rfl
theorem MN (H:Hp) (l:List Nd) (v:Value) (h0:Rep H (.seq 5 (l.map dNd)) [v]) (w:World) (hA:Agr H w) :
 Calls prg 130 #[v] w λr w'=>∃ (x:List Value) (H':Hp),bW4 x H'/\r=.returned (.agg x.toArray)/\xD H w H' w':=by
 obtain ⟨p,c,e,_⟩:=h0.sl;simp only [gD,qV,bJ] at e;subst e;have h:=h0;have hcap:=h.cap;refine Sx.enter (H:=H) func130 rfl ntmps130 rfl hA ?_;refine .sr<|.al iM Z λb2=>.ns<|.mv Z<|.mv Z<|.yw (.lenSl CG Z)<|.yw (.min2 Z Z (c:=((min l.length 60:Nat):Int)) (by omega))<|.yw (.cutHi2 CG Z Z (h:=min l.length 60) Z (by have:=h.len.2.1;omega))<|.ct (X:=List Value × Value) MU Z (λW s=>YU 30 1 Z H (l.take (min l.length 60)) _ W (by rw [zJ];exact OY h (by omega)) s.agr) Z λy H1 hc u1=>?_
 obtain ⟨x,y⟩:=y;obtain ⟨e,rest,hx,hg,h13,hcn,_⟩:=hc;dsimp only at hx;rw [dT] at hcn;refine .mv Z<|.yw (.extract Z Z)<|.yw (.extract Z Z)<|.al iM Z λb3=>.sV .head Z Z gP (KH hx) hx.one Z<|.a Z Z<|.ns<|.yw (.loadW Z dH Hm (KH hx))<|.sV mD Z Z gP (KH hx) hx.one Z<|.nt<|.rt<|?_
 exact y8 Z (.cell Z dH dC (KH hx)) λW t=>⟨x,H1,⟨e,hx,hg,h13,by omega⟩,Z,u1.grow t⟩
def kZ (c:UInt8):Bool:=decide (c=32) || decide (c=9) || decide (c=10) || decide (c=13)
def eG:Bool->Str->Str
 | _,[]=>[]
 | true,c::r=>if c=10 then eG false r else eG true r
 | false,c::r=>if kZ c then eG false r else if c=47/\r.head? = some 47 then eG true r else c::r
theorem sQ (b:Bool):eG b []=[]:=by cases b <;> rfl
variable {r:Str}
theorem OU {c:UInt8} (h:¬ c=10):eG true (c::r)=eG true r:=by rw [eG,aG h]
theorem OT (r:Str):eG true (10::r)=eG false (10::r):=by rw [eG,aO rfl,eG,aO (by decide)]
theorem OV {c:UInt8} (h:kZ c=true):eG false (c::r)=eG false r:=by rw [eG,aO h]
theorem OS (r:Str):eG false (47::47::r)=eG true (47::47::r):=by simp [eG,kZ]
theorem oW {c:UInt8} (h:kZ c=false) (h2:¬ (c=47/\r.head? = some 47)):eG false (c::r)=c::r:=by rw [eG,aG (by simp [h]),aG h2]
theorem wL:∀ (l:Str) (b:Bool),∃ p,l=p++eG b l
 | [],b=>⟨[],by rw [sQ];rfl⟩
 | c::r,true=>by
  rw [eG]
  split
  ·obtain ⟨p,h⟩:=wL r false;exact ⟨c::p,by rw [bT,<-h]⟩
  ·obtain ⟨p,h⟩:=wL r true;exact ⟨c::p,by rw [bT,<-h]⟩
 | c::r,false=>by
  rw [eG]
  split
  ·obtain ⟨p,h⟩:=wL r false;exact ⟨c::p,by rw [bT,<-h]⟩
  ·split
   ·obtain ⟨p,h⟩:=wL r true;exact ⟨c::p,by rw [bT,<-h]⟩
   ·exact ⟨[],Z⟩
theorem nY (b:Bool) (l:Str):(eG b l).length<=l.length:=by
 obtain ⟨p,h⟩:=wL l b;have:=congrArg List.length h;rw [aH] at this;omega
theorem zP (b:Bool) (l:Str):l.drop (l.length - (eG b l).length)=eG b l:=by
 obtain ⟨p,h⟩:=wL l b;generalize eG b l=q at h;subst h;rw [show (p++q).length - q.length=p.length by rw [aH];omega,List.drop_left]
theorem sT {l:Str} (h:l≠[]):1<=(bU l).2/\(bU l).2<=l.length:=by
 match l,h with
 | c::r,_ =>
  have hp:∀ q:UInt8->Bool,q c=true->1<=pre q (c::r):=λq hq=>by unfold pre;rw [eA,hq];simp
  cases h1:mW c with
  | true =>
   have h2:=hp iC (by simp [iC,h1]);have h3:=tQ iC (c::r);cases h4:words.contains ((c::r).take (pre iC (c::r))) with
   | true=>simp only [bU,aN,h1,h4,aY];exact ⟨h2,h3⟩
   | false =>
    by_cases h5:pre iC (c::r)<=12
    ·simp only [bU,aN,h1,h4,h5,aY,aE,aW];exact ⟨h2,h3⟩
    ·simp only [bU,aN,h1,h4,h5,aY,aE,aW];simp
  | false =>
   cases h4:iA c with
   | true =>
    have h2:=hp iA h4;have h3:=tQ iA (c::r)
    by_cases h5:pre iA (c::r)=1\/c≠48
    ·simp only [bU,aN,h1,h4,h5,aY,aE,aW];exact ⟨h2,h3⟩
    ·simp only [bU,aN,h1,h4,h5,aY,aE,aW];simp
   | false =>
    cases hx:symbols.find? (λx=>x.isPrefixOf (c::r)) with
    | none=>simp only [bU,aN,h1,h4,hx,aE,aW];simp
    | some x =>
     have hm:=List.mem_of_find?_eq_some hx;have hpx:=List.find?_some hx
     have hl:x.length<=(c::r).length:=by
      obtain ⟨t,ht⟩:=gW.1 hpx;rw [<-ht];simp
     have key:∀ y∈symbols,1<=y.length:=by decide
     simp only [bU,aN,h1,h4,hx,aE,aW];exact ⟨key x hm,hl⟩
theorem OZ {c:UInt8} (h:(bU (c::r)).1=1):mW c=true:=by
 cases h1:mW c with
 | true=>rfl
 | false =>
  cases h4:iA c with
  | true =>
   by_cases h5:pre iA (c::r)=1\/c≠48
   ·simp only [bU,aN,h1,h4,h5,aY,aE,aW] at h;simp at h
   ·simp only [bU,aN,h1,h4,h5,aY,aE,aW] at h;simp at h
  | false =>
   cases hx:symbols.find? (λx=>x.isPrefixOf (c::r)) <;> simp only [bU,aN,h1,h4,hx,aE,aW] at h <;> simp at h
structure Tk where
 k:UInt8
 t:Str
 o:Nat
def dTk (k:IntKind) (x:Tk):D:=.str [.val (.int k x.k.toNat),.val (cH x.t),.val (iN x.o)]
def cTk (k:IntKind) (x:Tk):List Value:=[.int k x.k.toNat,cH x.t,iN x.o]
theorem JR {k:IntKind} {x:Tk} {cs:List Value} (h:Rep H (dTk k x) cs):cs=cTk k x/\x.t.length<=1000000:=by
 rw [dTk,UK] at h;obtain ⟨_,rfl,_,_,h⟩:=fE.1 h;obtain ⟨_,rfl,_,k0,h⟩:=fE.1 h;obtain ⟨_,rfl,_,_,h⟩:=fE.1 h;rw [vK] at h;subst h;exact ⟨Z,okS.1 k0⟩
theorem JQ {k:IntKind} {x:Tk} (h:x.t.length<=1000000):Rep H (dTk k x) (cTk k x):=by
 rw [dTk,UK];exact fE.2 ⟨_,Z,Z,Jt,fE.2 ⟨_,Z,Z,okS.2 h,fE.2 ⟨_,Z,Z,Jt,vK.2 rfl⟩⟩⟩
def BJ:Nat->Nat->Str->List Tk
 | 0,_,_=>[]
 | f+1,o,m=>if m=[] then [] else ⟨(bU m).1,m.take (bU m).2,o⟩::BJ f (o+(m.length - (eG false (m.drop (bU m).2)).length)) (eG false (m.drop (bU m).2))
def qL (s:Str):List Tk:=BJ (s.length+1) (s.length - (eG false s).length) (eG false s)
variable {m:Str}
theorem nX {f o:Nat} (h:m≠[]):BJ (f+1) o m=⟨(bU m).1,m.take (bU m).2,o⟩::BJ f (o+(m.length - (eG false (m.drop (bU m).2)).length)) (eG false (m.drop (bU m).2)):=by rw [BJ,aG h]
theorem qH (f o:Nat):BJ f o []=[]:=by cases f <;> simp [BJ]
theorem CH:∀ (f g o:Nat) (m:Str),m.length<f->m.length<g->BJ f o m=BJ g o m
 | 0,_,_,_,h,_=>by omega
 | _,0,_,_,_,h=>by omega
 | f+1,g+1,o,m,h,k=>by
  by_cases h0:m=[]
  ·subst h0;rw [qH,qH]
  ·rw [nX h0,nX h0];have hr:=sT h0;have hs:=nY false (m.drop (bU m).2);rw [cM] at hs;rw [CH f g _ _ (by omega) (by omega)]
theorem LQ (s:Str):eN s=true↔∃ o,qL s=[⟨1,s,o⟩]:=by
 constructor
 ·intro h;simp only [eN,aF,aD,dL] at h;obtain ⟨⟨h0,h1⟩,h2⟩:=h
  match s,h0 with
  | c::r,h0 =>
   have hl:mW c=true:=OZ h1
   have hs:eG false (c::r)=c::r:=oW (by
    have key:∀ i∈List.range 256,mW (UInt8.ofNat i)=true->kZ (UInt8.ofNat i)=false:=by decide +kernel
    have:=key c.toNat (cD.2 c.toNat_lt);rw [fC] at this;exact this hl) (by rintro ⟨rfl,_⟩;revert hl;decide)
   refine ⟨0,?_⟩;rw [qL,hs,nX h0,h2,aZ,List.drop_length,sQ,qH,mR,h1]
 ·rintro ⟨o,h⟩;rw [qL] at h
  by_cases h0:eG false s=[]
  ·rw [h0,qH] at h;cases h
  ·rw [nX h0] at h;injection h with h _
   injection h with h1 h2 h3
   have hl:=nY false s;have hr:=sT h0;have h4:=congrArg List.length h2;rw [dT] at h4
   have h5:eG false s=s:=by
    have:=zP false s;rw [show s.length - (eG false s).length=0 by omega,nK] at this;exact this.symm
   rw [h5] at h0 h1 h4 hr;simp only [eN,aF,aD,dL];exact ⟨⟨h0,h1⟩,by omega⟩
inductive Rs (α:Type) where
 | ok (a:α) (r:List Tk)
 | er (r:List Tk) (code:Nat)
def Rs.bind {α β:Type} (x:Rs α) (f:α->List Tk->Rs β):Rs β:=match x with | .ok a r=>f a r | .er r c=>.er r c
def isT (w:Str):List Tk->Bool
 | []=>false
 | t::_=>(t.k == 2 || t.k == 4) && decide (t.t=w)
def sU {α:Type} (w:Str) (r:List Tk) (f:List Tk->Rs α):Rs α:=if isT w r then f r.tail else .er r 8
def AX {α:Type} (r:List Tk) (f:Str->List Tk->Rs α):Rs α:=match r with | []=>.er r 8 | t::q=>if t.k=1 then f t.t q else .er r 8
def oQ (s:Str):Nat:=s.foldl (λv c=>10 * v+(c.toNat - 48)) 0
def bR2:Nat->List (Str × UInt8)
 | 0=>[([111,114],23)]
 | 1=>[([97,110,100],22)]
 | 2=>[([61,61],16),([33,61],17),([60],18),([60,61],19),([62],20),([62,61],21)]
 | 3=>[([43],14),([45],15)]
 | _=>[([42],11),([47],12),([37],13)]
def opAt (lv:Nat) (r:List Tk):Option UInt8:=((bR2 lv).find? λx=>isT x.1 r).map (·.2)
inductive Md where
 | ex (lv:Nat)
 | lp (lv:Nat) (a:Ex)
def opE (op:UInt8) (l:List Ex):Ex:=.mk op [] 0 l
def rM (rec:List Tk->Rs Ex) (r:List Tk):Rs Ex :=
 match r with
 | []=>.er r 8
 | t::q =>
  if t.k=3 then (if oQ t.t<=9223372036854775807 then .ok (.mk 1 [] (Int64.ofNat (oQ t.t)) []) q else .er r 2)
  else if isT [116,114,117,101] r then .ok (opE 2 []) q
  else if isT [102,97,108,115,101] r then .ok (opE 3 []) q
  else if isT [110,111,119] r then .ok (opE 4 []) q
  else if isT [115,105,122,101] r then AX q λs r2=>.ok (.mk 8 s 0 []) r2
  else if isT [40] r then (rec q).bind λx r2=>sU [41] r2 λr3=>.ok x r3
  else if isT [104,97,115] r then AX q λs r2=>sU [91] r2 λr3=>(rec r3).bind λx r4=>sU [93] r4 λr5=>.ok (.mk 7 s 0 [x]) r5
  else if t.k=1 then (if isT [91] q then (rec q.tail).bind λx r4=>sU [93] r4 λr5=>.ok (.mk 6 t.t 0 [x]) r5 else .ok (.mk 5 t.t 0 []) q)
  else .er r 8
def pE:Nat->Md->List Tk->Rs Ex
 | 0,_,r=>.er r 99
 | f+1,.ex lv,r =>
  if lv<5 then (pE f (.ex (lv+1)) r).bind λa r1=>pE f (.lp lv a) r1
  else if isT [45] r then (pE f (.ex 5) r.tail).bind λx r2=>.ok (opE 9 [x]) r2
  else if isT [110,111,116] r then (pE f (.ex 5) r.tail).bind λx r2=>.ok (opE 10 [x]) r2
  else rM (pE f (.ex 0)) r
 | f+1,.lp lv a,r =>
  match opAt lv r with
  | none=>.ok a r
  | some op=>(pE f (.ex (lv+1)) r.tail).bind λb r2=>if lv=2 then .ok (opE op [a,b]) r2 else pE f (.lp lv (opE op [a,b])) r2
/-! ### Enough fuel -/
theorem ifC {α:Type} {c:Prop} [Decidable c] {x y u v:α} (h1:x=u) (h2:y=v):(if c then x else y)=(if c then u else v):=by rw [h1,h2]
theorem ifI {α:Type} {c d:Prop} [Decidable c] [Decidable d] {x y:α} (h:c↔d):(if c then x else y)=(if d then x else y):=by
 by_cases e:c
 ·rw [aO e,aO (h.1 e)]
 ·rw [aG e,aG (λk=>e (h.2 k))]
variable {w:Str}
theorem pW {r:List Tk} (h:isT w r=true):r.length=r.tail.length+1:=by cases r with | nil=>cases h | cons t q=>rfl
theorem RR {lv:Nat} {r:List Tk} {op:UInt8} (h:opAt lv r=some op):r.length=r.tail.length+1:=by
 unfold opAt at h;obtain ⟨x,hx,_⟩:=eD.1 h;exact pW (w:=x.1) (by have:=List.find?_some hx;exact this)
theorem Rs.bind_ok {α β:Type} {x:Rs α} {f:α->List Tk->Rs β} {b:β} {r:List Tk} (h:x.bind f=.ok b r):∃ a q,x=.ok a q/\f a q=.ok b r:=by
 cases x with
 | ok a q=>exact ⟨a,q,Z,h⟩
 | er q c=>cases h
theorem GB {α:Type} {r:List Tk} {f:List Tk->Rs α} {a:α} {q:List Tk} (h:sU w r f=.ok a q):isT w r=true/\f r.tail=.ok a q:=by
 unfold sU at h
 split at h
 ·rename_i e;exact ⟨e,h⟩
 ·cases h
theorem UZ {α:Type} {r:List Tk} {f:Str->List Tk->Rs α} {a:α} {q:List Tk} (h:AX r f=.ok a q):∃ t r',r=t::r'/\t.k=1/\f t.t r'=.ok a q:=by
 unfold AX at h;cases r with
 | nil=>cases h
 | cons t r' =>
  by_cases e:t.k=1
  ·simp only [e,aY] at h;exact ⟨t,r',Z,e,h⟩
  ·simp only [e,aW] at h;cases h
theorem aH9 {rec:List Tk->Rs Ex} (hr:∀ q a r',rec q=.ok a r'->r'.length<=q.length) {r:List Tk} {a:Ex} {r':List Tk} (h:rM rec r=.ok a r'):r'.length<r.length:=by
 unfold rM at h;cases r with
 | nil=>cases h
 | cons t q =>
  simp only at h
  have fin:∀ {b:Ex} {l:List Tk},(Rs.ok b l:Rs Ex)=.ok a r'->l.length<=q.length->r'.length<(t::q).length:=by
   intro b l e hl;injection e with _ e;subst e;simp;omega
  split at h
  ·split at h
   ·exact fin h (bK _)
   ·cases h
  split at h
  ·exact fin h (bK _)
  split at h
  ·exact fin h (bK _)
  split at h
  ·exact fin h (bK _)
  split at h
  ·obtain ⟨t2,r2,rfl,_,h⟩:=UZ h;exact fin h (by simp)
  split at h
  ·obtain ⟨x,r2,h1,h⟩:=Rs.bind_ok h;obtain ⟨h2,h⟩:=GB h;have:=hr _ _ _ h1;have:=pW h2;exact fin h (by omega)
  split at h
  ·obtain ⟨t2,r2,rfl,_,h⟩:=UZ h;obtain ⟨h2,h⟩:=GB h;obtain ⟨x,r4,h1,h⟩:=Rs.bind_ok h;obtain ⟨h3,h⟩:=GB h;have:=hr _ _ _ h1;have:=pW h2;have:=pW h3;exact fin h (by simp;omega)
  split at h
  ·split at h
   ·rename_i h2;obtain ⟨x,r4,h1,h⟩:=Rs.bind_ok h;obtain ⟨h3,h⟩:=GB h;have:=hr _ _ _ h1;have:=pW h2;have:=pW h3;exact fin h (by omega)
   ·exact fin h (bK _)
  ·cases h
theorem BO:∀ (f:Nat),(∀ lv r a r',pE f (.ex lv) r=.ok a r'->r'.length<r.length)/\(∀ lv x r a r',pE f (.lp lv x) r=.ok a r'->r'.length<=r.length)
 | 0=>⟨λ_ _ _ _ h=>(by cases h),λ_ _ _ _ _ h=>(by cases h)⟩
 | f+1=>by
  obtain ⟨ih1,ih2⟩:=BO f;refine ⟨λlv r a r' h=>?_,λlv x r a r' h=>?_⟩
  ·unfold pE at h
   split at h
   ·obtain ⟨b,q,h1,h2⟩:=Rs.bind_ok h;have:=ih1 _ _ _ _ h1;have:=ih2 _ _ _ _ _ h2;omega
   split at h
   ·rename_i e;obtain ⟨b,q,h1,h2⟩:=Rs.bind_ok h;have:=ih1 _ _ _ _ h1;have:=pW e;injection h2 with _ e2;subst e2;omega
   split at h
   ·rename_i e;obtain ⟨b,q,h1,h2⟩:=Rs.bind_ok h;have:=ih1 _ _ _ _ h1;have:=pW e;injection h2 with _ e2;subst e2;omega
   ·exact aH9 (λq b r2 e=>pO (ih1 _ _ _ _ e)) h
  ·unfold pE at h
   split at h
   ·injection h with _ e;subst e;exact bK _
   ·rename_i op e;obtain ⟨b,q,h1,h2⟩:=Rs.bind_ok h;have:=ih1 _ _ _ _ h1;have:=RR e
    split at h2
    ·injection h2 with _ e2;subst e2;omega
    ·have:=ih2 _ _ _ _ _ h2;omega
theorem Rs.bind_congr {α β:Type} {x y:Rs α} {f g:α->List Tk->Rs β} (h:x=y) (k:∀ a r,x=.ok a r->f a r=g a r):x.bind f=y.bind g:=by
 subst h;cases x with
 | ok a r=>exact k a r rfl
 | er r c=>rfl
theorem IX {rec rec':List Tk->Rs Ex} {r:List Tk} (h:∀ q,q.length<r.length->rec q=rec' q):rM rec r=rM rec' r:=by
 unfold rM;cases r with
 | nil=>rfl
 | cons t q =>
  have hb:∀ (z:List Tk) (g:Ex->List Tk->Rs Ex),z.length<=q.length->(rec z).bind g=(rec' z).bind g:=λz g hz=>by rw [h z (by simp;omega)]
  have ht:∀ z:List Tk,z.tail.length<=z.length:=λz=>by simp
  simp only;rw [hb q _ (bK _),hb q.tail _ (ht q)];refine ifC rfl (ifC rfl (ifC rfl (ifC rfl (ifC rfl (ifC rfl (ifC ?_ rfl))))));unfold AX;cases q with
  | nil=>rfl
  | cons t2 r2 =>
   simp only;refine ifC ?_ rfl;unfold sU;refine ifC ?_ rfl;exact hb _ _ (by simp;omega)
def uG:Md->List Tk->Nat
 | .ex lv,r=>16 * r.length+9 - lv
 | .lp _ _,r=>16 * r.length+9
theorem UT (f lv:Nat) (r:List Tk):pE (f+1) (.ex lv) r=if lv<5 then (pE f (.ex (lv+1)) r).bind λa r1=>pE f (.lp lv a) r1
 else if isT [45] r then (pE f (.ex 5) r.tail).bind λx r2=>.ok (opE 9 [x]) r2
 else if isT [110,111,116] r then (pE f (.ex 5) r.tail).bind λx r2=>.ok (opE 10 [x]) r2
 else rM (pE f (.ex 0)) r:=by rw [pE]
theorem US (f lv:Nat) (a:Ex) (r:List Tk):pE (f+1) (.lp lv a) r=match opAt lv r with
 | none=>.ok a r
 | some op=>(pE f (.ex (lv+1)) r.tail).bind λb r2=>if lv=2 then .ok (opE op [a,b]) r2 else pE f (.lp lv (opE op [a,b])) r2:=by rw [pE]
theorem RQ:∀ (f:Nat),(∀ lv r,lv<=5->uG (.ex lv) r<=f->pE (f+1) (.ex lv) r=pE f (.ex lv) r)/\(∀ lv x r,lv<=4->uG (.lp lv x) r<=f->pE (f+1) (.lp lv x) r=pE f (.lp lv x) r)
 | 0=>⟨λlv r h1 h=>by simp only [uG] at h;omega,λlv x r h1 h=>by simp only [uG] at h;omega⟩
 | f+1=>by
  obtain ⟨ih1,ih2⟩:=RQ f;simp only [uG] at ih1 ih2|-;refine ⟨λlv r h5 h=>?_,λlv x r h4 h=>?_⟩
  ·rw [UT (f+1) lv r,UT f lv r]
   by_cases hlv:lv<5
   ·rw [aO hlv,aO hlv];refine Rs.bind_congr (ih1 _ _ (by omega) (by omega)) λa q e=>?_;have:=(BO (f+1)).1 _ _ _ _ e;exact ih2 _ _ _ (by omega) (by omega)
   rw [aG hlv,aG hlv]
   by_cases e:isT [45] r=true
   ·have:=pW e;rw [aO e,aO e];exact Rs.bind_congr (ih1 _ _ (by omega) (by omega)) λ_ _ _=>rfl
   rw [aG e,aG e]
   by_cases e:isT [110,111,116] r=true
   ·have:=pW e;rw [aO e,aO e];exact Rs.bind_congr (ih1 _ _ (by omega) (by omega)) λ_ _ _=>rfl
   rw [aG e,aG e];exact IX λq hq=>ih1 _ _ (by omega) (by omega)
  ·rw [US (f+1) lv x r,US f lv x r];cases e:opAt lv r with
   | none=>rfl
   | some op =>
    simp only;have:=RR e;refine Rs.bind_congr (ih1 _ _ (by omega) (by omega)) λa q e=>?_;have:=(BO (f+1)).1 _ _ _ _ e;refine ifC rfl ?_;exact ih2 _ _ _ (by omega) (by omega)
variable {g:Nat}
theorem aC4 {f lv:Nat} {r:List Tk} (h5:lv<=5) (h:uG (.ex lv) r<=f) (hg:f<=g):pE g (.ex lv) r=pE f (.ex lv) r:=by
 induction g with
 | zero => have : f = 0 := by omega
           rw [this]
 | succ g ih =>
  by_cases e:f=g+1
  ·rw [e]
  ·rw [(RQ g).1 lv r h5 (by omega)];exact ih (by omega)
theorem UR {f lv:Nat} {a:Ex} {r:List Tk} (h5:lv<=4) (h:uG (.lp lv a) r<=f) (hg:f<=g):pE g (.lp lv a) r=pE f (.lp lv a) r:=by
 induction g with
 | zero => have : f = 0 := by omega
           rw [this]
 | succ g ih =>
  by_cases e:f=g+1
  ·rw [e]
  ·rw [(RQ g).2 lv a r h5 (by omega)];exact ih (by omega)
def pX (lv:Nat) (r:List Tk):Rs Ex:=pE (16 * r.length+9) (.ex lv) r
def pL (lv:Nat) (a:Ex) (r:List Tk):Rs Ex:=pE (16 * r.length+9) (.lp lv a) r
theorem UQ {f lv:Nat} {r:List Tk} (h5:lv<=5) (h:uG (.ex lv) r<=f):pE f (.ex lv) r=pX lv r:=by
 unfold pX;rcases Nat.le_total f (16 * r.length+9) with h1 | h1
 ·rw [aC4 h5 h h1]
 ·rw [aC4 h5 (by simp only [uG];omega) h1]
theorem bN4 {f lv:Nat} {a:Ex} {r:List Tk} (h5:lv<=4) (h:uG (.lp lv a) r<=f):pE f (.lp lv a) r=pL lv a r:=by
 unfold pL;rcases Nat.le_total f (16 * r.length+9) with h1 | h1
 ·rw [UR h5 h h1]
 ·rw [UR h5 (by simp only [uG];omega) h1]
theorem RP {lv:Nat} {r:List Tk} (h:lv<5):pX lv r=(pX (lv+1) r).bind λa q=>pL lv a q:=by
 conv=>lhs;unfold pX
 rw [show 16 * r.length+9=(16 * r.length+8)+1 by omega,UT,aO h];refine Rs.bind_congr (UQ (by omega) (by simp only [uG];omega)) λa q e=>?_;have:=(BO _).1 _ _ _ _ e;exact bN4 (by omega) (by simp only [uG];omega)
theorem DK {r:List Tk} :pX 5 r=if isT [45] r then (pX 5 r.tail).bind λx r2=>.ok (opE 9 [x]) r2 else if isT [110,111,116] r then (pX 5 r.tail).bind λx r2=>.ok (opE 10 [x]) r2 else rM (pX 0) r:=by
 conv=>lhs;unfold pX
 rw [show 16 * r.length+9=(16 * r.length+8)+1 by omega,UT,aG (by omega)]
 by_cases e:isT [45] r=true
 ·have:=pW e;rw [aO e,aO e];exact Rs.bind_congr (UQ (by omega) (by simp only [uG];omega)) λ_ _ _=>rfl
 rw [aG e,aG e]
 by_cases e:isT [110,111,116] r=true
 ·have:=pW e;rw [aO e,aO e];exact Rs.bind_congr (UQ (by omega) (by simp only [uG];omega)) λ_ _ _=>rfl
 rw [aG e,aG e];exact IX λq hq=>UQ (by omega) (by simp only [uG];omega)
theorem CM {lv:Nat} {a:Ex} {r:List Tk} (h:opAt lv r=none):pL lv a r=.ok a r:=by
 unfold pL;rw [show 16 * r.length+9=(16 * r.length+8)+1 by omega,US];rw [h]
theorem aC3 {lv:Nat} {a:Ex} {r:List Tk} {op:UInt8} (hl:lv<=4) (h:opAt lv r=some op):pL lv a r=(pX (lv+1) r.tail).bind λb r2=>if lv=2 then .ok (opE op [a,b]) r2 else pL lv (opE op [a,b]) r2:=by
 conv=>lhs;unfold pL
 rw [show 16 * r.length+9=(16 * r.length+8)+1 by omega,US];rw [h];have:=RR h;refine Rs.bind_congr (UQ (by omega) (by simp only [uG];omega)) λb q e=>?_;have:=(BO _).1 _ _ _ _ e;refine ifC rfl ?_;exact bN4 hl (by simp only [uG];omega)
end Go.Proofs.YtidclioghdbphaaGreatDoor
namespace Go.Plain
open Go.Lib

theorem digits_more (x:Nat) (h:¬ x<10):decDigits x=decDigits (x / 10)++[UInt8.ofNat (48+x % 10)]:=by
 rw [decDigits,FD h]
theorem digit_nat (d:Nat) (h:d<10):(UInt8.ofNat (48+d)).toNat=48+d:=by
 rw [mN];omega
theorem digits_are:∀ (u:Nat) (c:UInt8),c∈decDigits u->48<=c.toNat/\c.toNat<=57:=by
 intro u;induction u using Nat.strongRecOn with
 | _ u ih =>
  intro c hc
  by_cases h:u<10
  ·rw [decDigits_one h] at hc;obtain rfl:=cI.1 hc;rw [digit_nat u h];omega
  ·rw [digits_more u h] at hc;rcases cV.1 hc with hc | hc
   ·exact ih (u / 10) (by omega) c hc
   ·obtain rfl:=cI.1 hc;rw [digit_nat (u % 10) (by omega)];omega
end Go.Plain
namespace Go.Proofs.YtidclioghdbphaaGreatDoor
abbrev Kt:=UInt8 × Str
def kt (t:Tk):Kt:=(t.k,t.t)
def isK (w:Str) (x:Kt):Bool:=(x.1 == 2 || x.1 == 4) && decide (x.2=w)
def opK (lv:Nat) (x:Kt):Option UInt8:=((bR2 lv).find? λy=>isK y.1 x).map (·.2)
theorem fK (w:Str) (t:Tk) (r:List Tk):isT w (t::r)=isK w (kt t):=rfl
theorem aI4 (lv:Nat) (t:Tk) (r:List Tk):opAt lv (t::r)=opK lv (kt t):=rfl
def DE (n lv:Nat) (l:List Kt):List Kt:=if lv<n then (4,[40])::(l++[(4,[41])]) else l
def EF (op:UInt8):Kt:=(if op=22\/op=23 then 2 else 4,((cK op).tx.drop 1).dropLast)
def ktx (op:UInt8) (nm:Str) (n:Int64) (ls:List (Nat × List Kt)):List Kt :=
 if op=1 then [(3,Lib.itoa n.toInt)]
 else if op=5 then [(1,nm)]
 else if op=8 then [(2,[115,105,122,101]),(1,nm)]
 else if op=6 then (1,nm)::(4,[91])::((ls.getD 0 (0,[])).2++[(4,[93])])
 else if op=7 then (2,[104,97,115])::(1,nm)::(4,[91])::((ls.getD 0 (0,[])).2++[(4,[93])])
 else if op=9 then (4,[45])::DE 6 (ls.getD 0 (0,[])).1 (ls.getD 0 (0,[])).2
 else if op=10 then (2,[110,111,116])::DE 6 (ls.getD 0 (0,[])).1 (ls.getD 0 (0,[])).2
 else if (cK op).n=0 then [(2,(cK op).tx)]
 else DE (xN (cK op).lv) (ls.getD 0 (0,[])).1 (ls.getD 0 (0,[])).2++EF op::DE ((cK op).lv+1) (ls.getD 1 (0,[])).1 (ls.getD 1 (0,[])).2
mutual
def ktE:Ex->List Kt
 | .mk op nm n args=>ktx op nm n (bY1 args)
def bY1:List Ex->List (Nat × List Kt)
 | []=>[]
 | e::r=>((cK e.op).lv,ktE e)::bY1 r
end
def Ex.lv (e:Ex):Nat:=(cK e.op).lv
def Stp (j:Nat) (r:List Tk):Prop:=(∀ i,j<=i->i<=4->opAt i r=none)/\isT [91] r=false
variable {i j:Nat}
theorem Stp.up {r:List Tk} (h:Stp i r) (hij:i<=j):Stp j r:=⟨λk h1 h2=>h.1 k (by omega) h2,h.2⟩
theorem Stp.of {t:Tk} {r:List Tk} (h:∀ i∈List.range 5,j<=i->opK i (kt t)=none) (h2:isK [91] (kt t)=false):Stp j (t::r) :=
 ⟨λi h1 h3=>h i (cD.2 (by omega)) h1,h2⟩
theorem UP {l:List Tk} {a:Ex} {r:List Tk}:∀ (d lv j:Nat),j=lv+1+d->j<=5->pX j l=.ok a r->Stp (lv+1) r->pX lv l=pL lv a r
 | 0,lv,j,e,hj,h,_=>by
  rw [RP (by omega),show lv+1=j by omega,h];rfl
 | d+1,lv,j,e,hj,h,hs=>by
  have:=UP d (lv+1) j (by omega) hj h (hs.up (by omega));rw [RP (by omega),this,CM (hs.1 _ (bK _) (by omega))];rfl
def Rd (e:Ex):Prop:=∀ le r,le.map kt=ktE e->(∀ lv,lv<=4->lv+1<=e.lv->Stp (lv+1) r->pX lv (le++r)=if lv=2/\e.lv=3 then .ok e r else pL lv e r)/\(6<=e.lv->isT [91] r=false->pX 5 (le++r)=.ok e r)
theorem Rd.full {e:Ex} (h:Rd e) {le r:List Tk} (hk:le.map kt=ktE e) {lv:Nat} (h5:lv<=5) (hl:lv+1<=e.lv) (hs:Stp lv r):pX lv (le++r)=.ok e r:=by
 by_cases e5:lv=5
 ·subst e5;exact (h le r hk).2 hl hs.2
 ·rw [(h le r hk).1 lv (by omega) hl (hs.up (by omega)),CM (hs.1 lv (bK _) (by omega))]
  split <;> rfl
theorem Rd.of {e:Ex} (h6:6<=e.lv) (h:∀ le r,le.map kt=ktE e->isT [91] r=false->pX 5 (le++r)=.ok e r):Rd e:=λle r hk=>by
 refine ⟨λlv hl h1 hs=>?_,λ_=>h le r hk⟩;rw [aG (by omega)];exact UP (4 - lv) lv 5 (by omega) (by omega) (h le r hk hs.2) hs
theorem Rd.par {e:Ex} (h:Rd e) (h1:1<=e.lv) {le r:List Tk} (hk:le.map kt=(4,[40])::(ktE e++[(4,[41])])):pX 5 (le++r)=.ok e r:=by
 obtain ⟨t,l1,rfl,ht,hk⟩:=cR.1 hk;obtain ⟨l2,l3,rfl,h2,h3⟩:=gY.1 hk;obtain ⟨t2,l4,rfl,ht2,h4⟩:=cR.1 h3;obtain rfl:=fB.1 h4;simp only [bT,aX,cU];have hf:=h.full h2 (r:=t2::r) (lv:=0) (by omega) h1 (.of (by rw [ht2];decide) (by rw [ht2];decide));rw [DK,fK,fK,ht,aG (by decide),aG (by decide),rM];have hk0:t.k=4:=congrArg Prod.fst ht;simp only [fK,ht];rw [aG (by rw [hk0];decide),aG (by decide),aG (by decide),aG (by decide),aG (by decide),aO (by decide),hf];show sU [41] (t2::r) _=_;rw [sU,fK,ht2,aO (by decide)]
 rfl
variable {n:Nat}
theorem Rd.opnd {e:Ex} (h:Rd e) (h1:1<=e.lv) {le r:List Tk} (hk:le.map kt=DE n e.lv (ktE e)) (hn:n<=6) (h0:0<n) (hs:Stp (n - 1) r):pX (n - 1) (le++r)=.ok e r:=by
 unfold DE at hk
 split at hk
 ·have hp:=h.par h1 hk (r:=r)
  by_cases e5:n=6
  ·subst e5;exact hp
  ·rw [UP (5 - n) (n - 1) 5 (by omega) (by omega) hp (hs.up (by omega)),CM (hs.1 _ (bK _) (by omega))]
 ·exact h.full hk (by omega) (by omega) hs
theorem Rd.left {e:Ex} (h:Rd e) (h1:1<=e.lv) {lv:Nat} {le r:List Tk} (hk:le.map kt=DE (lv+1) e.lv (ktE e)) (hn:lv<=4) (h2:lv≠2) (hs:Stp (lv+1) r):pX lv (le++r)=pL lv e r:=by
 unfold DE at hk
 split at hk
 ·exact UP (4 - lv) lv 5 (by omega) (by omega) (h.par h1 hk (r:=r)) hs
 ·rw [(h le r hk).1 lv hn (by omega) hs,aG (by omega)]
theorem JA (u:Nat):oQ (Lib.decDigits u)=u:=by
 induction u using Nat.strongRecOn with
 | _ u ih =>
  by_cases h:u<10
  ·rw [Lib.decDigits_one h];simp only [oQ,sP,yB,Plain.digit_nat u h];omega
  ·rw [Plain.digits_more u h];have:=ih (u / 10) (by omega);unfold oQ at this|-;rw [nI,this];simp only [sP,yB,Plain.digit_nat (u % 10) (by omega)];omega
theorem aI8 {n:Int} (h:0<=n):oQ (Lib.itoa n)=n.toNat:=by
 unfold Lib.itoa;rw [aG (by omega),JA]
theorem FZ {op:UInt8} (h:GA op=true):op∈([1,2,3,4,5,6,7,8,9,10,11,12,13,14,15,16,17,18,19,20,21,22,23]:List UInt8):=by
 simp only [GA,aF,aD] at h;have key:∀ i∈List.range 24,1<=i->UInt8.ofNat i∈([1,2,3,4,5,6,7,8,9,10,11,12,13,14,15,16,17,18,19,20,21,22,23]:List UInt8):=by decide
 have:=key op.toNat (cD.2 (by omega)) h.1
 rwa [fC] at this
theorem LJ {op:UInt8} (h:GA op=true):op=1\/op∈([11,12,13,14,15,16,17,18,19,20,21,22,23]:List UInt8)\/(op=2\/op=3\/op=4\/op=5\/op=6\/op=7\/op=8\/op=9\/op=10):=by
 have key:∀ o∈([1,2,3,4,5,6,7,8,9,10,11,12,13,14,15,16,17,18,19,20,21,22,23]:List UInt8),o=1\/o∈([11,12,13,14,15,16,17,18,19,20,21,22,23]:List UInt8)\/(o=2\/o=3\/o=4\/o=5\/o=6\/o=7\/o=8\/o=9\/o=10):=by decide
 exact key op (FZ h)
theorem bX7 {op:UInt8} (h:GA op=true):1<=(cK op).lv:=by
 have key:∀ o∈([1,2,3,4,5,6,7,8,9,10,11,12,13,14,15,16,17,18,19,20,21,22,23]:List UInt8),1<=(cK o).lv:=by decide
 exact key op (FZ h)
theorem args0 {l:List Ex} (h:l.length=0):l=[]:=bQ h
theorem xW {l:List Ex} (h:l.length=1):∃ a,l=[a]:=List.length_eq_one_iff.1 h
theorem qC {l:List Ex} (h:l.length=2):∃ a b,l=[a,b]:=by
 match l,h with
 | [a,b],_=>exact ⟨a,b,Z⟩
theorem VK {n:Int64} (h:n.toInt=0):n=0:=jY.1 (by rw [h];rfl)
def binOp (op:UInt8):Bool:=decide (11<=op.toNat) && decide (op.toNat<=23)
theorem zD:∀ op∈([11,12,13,14,15,16,17,18,19,20,21,22,23]:List UInt8),(cK op).n=2/\(cK op).nm=false/\1<=(cK op).lv/\(cK op).lv<=5/\opK ((cK op).lv - 1) (EF op)=some op/\isK [91] (EF op)=false /\
 (∀ i∈List.range 5,(cK op).lv<=i->opK i (EF op)=none)/\¬ op=1/\¬ op=5/\¬ op=8/\¬ op=6/\¬ op=7/\¬ op=9/\¬ op=10:=by decide
theorem SE {op:UInt8} (h:op∈([11,12,13,14,15,16,17,18,19,20,21,22,23]:List UInt8)) (nm:Str) (n:Int64) (a b:Ex) :
 ktE (.mk op nm n [a,b])=DE (xN (cK op).lv) a.lv (ktE a)++EF op::DE ((cK op).lv+1) b.lv (ktE b):=by
 obtain ⟨h1,_,_,_,_,_,_,g1,g2,g3,g4,g5,g6,g7⟩:=zD op h;rw [ktE,ktx,aG g1,aG g2,aG g3,aG g4,aG g5,aG g6,aG g7,aG (by omega)]
 rfl
theorem bQ8 {op:UInt8} (h:op∈([11,12,13,14,15,16,17,18,19,20,21,22,23]:List UInt8)) {a b:Ex} (ha:Rd a) (hb:Rd b) (ha1:1<=a.lv) (hb1:1<=b.lv):Rd (opE op [a,b]):=by
 intro le r hk;obtain ⟨_,_,h3,h4,h5,h6,h7,_⟩:=zD op h;have hlv:(opE op [a,b]).lv=(cK op).lv:=rfl;rw [hlv];rw [show opE op [a,b]=.mk op [] 0 [a,b] from rfl,SE h] at hk;obtain ⟨la,l1,rfl,hla,hk⟩:=gY.1 hk;obtain ⟨t,lb,rfl,ht,hlb⟩:=cR.1 hk;generalize hL:(cK op).lv=L at *;refine ⟨?_,λh8=>absurd h8 (by omega)⟩;have hst:∀ q,Stp L (t::q):=λq=>.of (by rw [ht];exact h7) (by rw [ht];exact h6)
 -- at its own level
 have own:Stp L r->pX (L - 1) (la++t::lb++r)=if L - 1=2 then .ok (opE op [a,b]) r else pL (L - 1) (opE op [a,b]) r:=by
  intro hs;have hopt:∀ q,opAt (L - 1) (t::q)=some op:=λq=>by rw [aI4,ht];exact h5
  have hB:pX L (lb++r)=.ok b r:=by
   have:=hb.opnd hb1 (n:=L+1) hlb (by omega) (by omega) (r:=r) (by simpa using hs);simpa using this
  have hA:pX (L - 1) (la++(t::lb++r))=pL (L - 1) a (t::lb++r):=by
   by_cases h2:L=3
   ·subst h2;have:=ha.opnd ha1 (n:=4) (r:=t::lb++r) hla (by omega) (by omega) (hst _);rw [RP (by omega)];show (pX 3 _).bind _=_;rw [show (4:Nat) - 1=3 from rfl] at this;rw [this];rfl
   ·have e:xN L=L - 1+1:=by unfold xN;rw [aG h2];omega
    rw [e] at hla;exact ha.left ha1 hla (by omega) (by omega) (by rw [show L - 1+1=L by omega];exact hst _)
  rw [aX,hA,bT,aC3 (by omega) (hopt _)];show (pX (L - 1+1) (lb++r)).bind _=_;rw [show L - 1+1=L by omega,hB]
  rfl
 intro lv hl4 hl hs
 by_cases e:lv=L - 1
 ·subst e;rw [show L - 1+1=L by omega] at hs;rw [own hs];exact ifI (by omega)
 ·rw [aG (by omega)];refine UP (L - 2 - lv) lv (L - 1) (by omega) (by omega) ?_ hs;rw [own (hs.up (by omega)),CM (hs.1 _ (by omega) (by omega))]
  split <;> rfl
theorem SD {op:UInt8} {nm:Str} {n:Int64} {args:List Ex} {x:Kt} (h:ktE (.mk op nm n args)=[x]) {le:List Tk} (hk:le.map kt=ktE (.mk op nm n args)):∃ t,le=[t]/\kt t=x:=by
 rw [h] at hk;obtain ⟨t,l,rfl,ht,hl⟩:=cR.1 hk;obtain rfl:=fB.1 hl;exact ⟨t,Z,ht⟩
theorem bN2 {op:UInt8} {a:Ex} (ha:Rd a) (h1:1<=a.lv) (hop:op=9\/op=10):Rd (opE op [a]):=by
 refine .of (by rcases hop with rfl | rfl <;> exact (by decide:6<=6)) λle r hk h91=>?_
 have key:∃ t l,le=t::l/\kt t=(if op=9 then (4,[45]) else (2,[110,111,116]))/\l.map kt=DE 6 a.lv (ktE a):=by
  rcases hop with rfl | rfl
  ·obtain ⟨t,l,rfl,ht,hl⟩:=cR.1 (show le.map kt=(4,[45])::DE 6 a.lv (ktE a) from hk);exact ⟨t,l,Z,ht,hl⟩
  ·obtain ⟨t,l,rfl,ht,hl⟩:=cR.1 (show le.map kt=(2,[110,111,116])::DE 6 a.lv (ktE a) from hk);exact ⟨t,l,Z,ht,hl⟩
 obtain ⟨t,l,rfl,ht,hl⟩:=key;have hA:pX 5 (l++r)=.ok a r:=ha.opnd h1 (n:=6) hl (by omega) (by omega) ⟨λi h1 h2=>by omega,h91⟩;rw [bT,DK];rcases hop with rfl | rfl
 ·rw [fK,ht,aO (by decide)];show (pX 5 (l++r)).bind _=_;rw [hA];rfl
 ·rw [fK,fK,ht,aG (by decide),aO (by decide)];show (pX 5 (l++r)).bind _=_;rw [hA];rfl
theorem aU6 {a:Ex} (ha:Rd a) (h1:1<=a.lv) {l r:List Tk} (hl:l.map kt=(4,[91])::(ktE a++[(4,[93])])):isT [91] (l++r)=true/\∀ (g:Ex->List Tk->Rs Ex),((pX 0 (l++r).tail).bind λx r4=>sU [93] r4 λr5=>g x r5)=g a r:=by
 obtain ⟨t,l1,rfl,ht,hk⟩:=cR.1 hl;obtain ⟨l2,l3,rfl,h2,h3⟩:=gY.1 hk;obtain ⟨t2,l4,rfl,ht2,h4⟩:=cR.1 h3;obtain rfl:=fB.1 h4;refine ⟨by rw [bT,fK,ht];decide,λg=>?_⟩;have hf:=ha.full h2 (r:=t2::r) (lv:=0) (by omega) h1 (.of (by rw [ht2];decide) (by rw [ht2];decide));simp only [bT,aX,cU,xZ];rw [hf];show sU [93] (t2::r) _=_;rw [sU,fK,ht2,aO (by decide)]
 rfl
theorem bQ9 (e:Ex):Ex.all oZ e=true->Rd e/\1<=e.lv:=by
 induction e using Ex.ind with
 | _ op nm n args ih =>
  intro h;rw [lS,aF] at h;obtain ⟨hf,hr⟩:=h;have ha:∀ a∈args,Rd a/\1<=a.lv:=λa m=>ih a m (iQ m hr);simp only [oZ,aF,aT,aD] at hf;obtain ⟨⟨⟨hop,hl⟩,hnm⟩,hn⟩:=hf;refine ⟨?_,bX7 hop⟩;have hm:=FZ hop
  by_cases h1:op=1
  ·subst h1;obtain rfl:=args0 hl;obtain rfl:nm=[]:=hnm.resolve_left (by decide);rw [aO rfl,aD] at hn;refine .of (show 6<=(cK 1).lv by decide) λle r hk _=>?_;obtain ⟨t,rfl,ht⟩:=SD (x:=(3,Lib.itoa n.toInt)) rfl hk;have hk3:t.k=3:=congrArg Prod.fst ht;have ht2:t.t=Lib.itoa n.toInt:=congrArg Prod.snd ht;have hlt:=n.toInt_lt;rw [bT,cU,DK,fK,fK,ht,aG (by simp [isK]),aG (by simp [isK]),rM];rw [aO hk3,ht2,aI8 hn,aO (by omega)]
   congr 2
   exact jY.1 (by rw [iV (by omega)];omega)
  rw [aG h1,aD] at hn;obtain rfl:=VK hn
  by_cases hb:op∈([11,12,13,14,15,16,17,18,19,20,21,22,23]:List UInt8)
  ·obtain ⟨b1,b2,_⟩:=zD op hb;obtain ⟨a,b,rfl⟩:=qC (l:=args) (by omega)
   obtain rfl : nm = [] := by rcases hnm with e | e
                              ·rw [b2] at e;cases e
                              ·exact e
   have h3:=ha a (by simp);have h4:=ha b (by simp);exact bQ8 hb h3.1 h4.1 h3.2 h4.2
  have hs:op=2\/op=3\/op=4\/op=5\/op=6\/op=7\/op=8\/op=9\/op=10:=((LJ hop).resolve_left h1).resolve_left hb
  have cst:∀ (w:Str),op=2\/op=3\/op=4->w=(cK op).tx->Rd (.mk op nm 0 args):=by
   intro w ho hw
   have hnil:args=[]:=by
    rcases ho with rfl | rfl | rfl <;> exact args0 hl
   have hnm0:nm=[]:=by
    rcases ho with rfl | rfl | rfl <;> exact hnm.resolve_left (by decide)
   subst hnil hnm0;refine .of (by rcases ho with rfl | rfl | rfl <;> exact (by decide:6<=7)) λle r hk _=>?_;rcases ho with rfl | rfl | rfl
   all_goals
    obtain ⟨t,rfl,ht⟩:=SD rfl hk;have hk3:t.k=2:=congrArg Prod.fst ht;rw [bT,cU,DK,fK,fK,ht,aG (by decide),aG (by decide),rM];simp only [fK,ht];rw [aG (by rw [hk3];decide)]
   ·rw [aO (by decide)];rfl
   ·rw [aG (by decide),aO (by decide)];rfl
   ·rw [aG (by decide),aG (by decide),aO (by decide)];rfl
  rcases hs with rfl | rfl | rfl | rfl | rfl | rfl | rfl | rfl | rfl
  ·exact cst _ (.inl Z) rfl
  ·exact cst _ (.inr (.inl Z)) rfl
  ·exact cst _ (.inr (.inr Z)) rfl
  ·obtain rfl:=args0 hl;refine .of (show 6<=(cK 5).lv by decide) λle r hk h91=>?_;obtain ⟨t,rfl,ht⟩:=SD (x:=(1,nm)) rfl hk;have hk1:t.k=1:=congrArg Prod.fst ht;have ht2:t.t=nm:=congrArg Prod.snd ht;have hno:∀ w,isK w (1,nm)=false:=λw=>by simp [isK]
   rw [bT,cU,DK,fK,fK,ht,hno,hno,aG (by decide),aG (by decide),rM];simp only [fK,ht,hno];rw [aG (by rw [hk1];decide)];simp only [aE,aW];rw [aO hk1,h91,aG (by decide),ht2]
  ·obtain ⟨a,rfl⟩:=xW hl;obtain ⟨ra,r1⟩:=ha a (by simp);refine .of (show 6<=(cK 6).lv by decide) λle r hk h91=>?_;obtain ⟨t,l,rfl,ht,hl⟩:=cR.1 (show le.map kt=(1,nm)::(4,[91])::(ktE a++[(4,[93])]) from hk);have hk1:t.k=1:=congrArg Prod.fst ht;have ht2:t.t=nm:=congrArg Prod.snd ht;have hno:∀ w,isK w (1,nm)=false:=λw=>by simp [isK]
   obtain ⟨k1,k2⟩:=aU6 ra r1 hl (r:=r);rw [bT,DK,fK,fK,ht,hno,hno,aG (by decide),aG (by decide),rM];simp only [fK,ht,hno];rw [aG (by rw [hk1];decide)];simp only [aE,aW];rw [aO hk1,k1,aO rfl,k2,ht2]
  ·obtain ⟨a,rfl⟩:=xW hl;obtain ⟨ra,r1⟩:=ha a (by simp);refine .of (show 6<=(cK 7).lv by decide) λle r hk h91=>?_;obtain ⟨t,l,rfl,ht,hl⟩:=cR.1 (show le.map kt=(2,[104,97,115])::(1,nm)::(4,[91])::(ktE a++[(4,[93])]) from hk);obtain ⟨t2,l2,rfl,ht2,hl⟩:=cR.1 hl;have hk1:t.k=2:=congrArg Prod.fst ht;have hk2:t2.k=1:=congrArg Prod.fst ht2;have ht3:t2.t=nm:=congrArg Prod.snd ht2;obtain ⟨k1,k2⟩:=aU6 ra r1 hl (r:=r);rw [bT,DK,fK,fK,ht,aG (by decide),aG (by decide),rM];simp only [fK,ht];rw [aG (by rw [hk1];decide),aG (by decide),aG (by decide),aG (by decide),aG (by decide),aG (by decide),aO (by decide),bT,AX];rw [aO hk2,sU,k1,aO rfl,k2,ht3]
  ·obtain rfl:=args0 hl;refine .of (show 6<=(cK 8).lv by decide) λle r hk h91=>?_;obtain ⟨t,l,rfl,ht,hl⟩:=cR.1 (show le.map kt=(2,[115,105,122,101])::(1,nm)::[] from hk);obtain ⟨t2,l2,rfl,ht2,hl⟩:=cR.1 hl;obtain rfl:=fB.1 hl;have hk1:t.k=2:=congrArg Prod.fst ht;have hk2:t2.k=1:=congrArg Prod.fst ht2;have ht3:t2.t=nm:=congrArg Prod.snd ht2;rw [bT,DK,fK,fK,ht,aG (by decide),aG (by decide),rM];simp only [fK,ht];rw [aG (by rw [hk1];decide),aG (by decide),aG (by decide),aG (by decide),aO (by decide),bT,AX];rw [aO hk2,ht3];rfl
  ·obtain ⟨a,rfl⟩:=xW hl;obtain ⟨ra,r1⟩:=ha a (by simp);obtain rfl:nm=[]:=hnm.resolve_left (by decide);exact bN2 ra r1 (.inl Z)
  ·obtain ⟨a,rfl⟩:=xW hl;obtain ⟨ra,r1⟩:=ha a (by simp);obtain rfl:nm=[]:=hnm.resolve_left (by decide);exact bN2 ra r1 (.inr Z)
structure Tok (x:Kt) (r:Str):Prop where
 ne:x.2≠[]
 read:bU (x.2++r)=(x.1,x.2.length)
 skip:eG false (x.2++r)=x.2++r
 k5:x.1≠5
 sh:x.2.length<=1000000
inductive Lx:Str->List Kt->Prop where
 | nil:Lx [] []
 | blk {c:UInt8} {s:Str} {k:List Kt} (h:kZ c=true) (l:Lx s k):Lx (c::s) k
 | tok {x:Kt} {s:Str} {k:List Kt} (h:Tok x s) (l:Lx s k):Lx (x.2++s) (x::k)
def vR (r:Str):Prop:=∀ c,r.head? = some c->iC c=false/\c≠46/\c≠61/\c≠62/\c≠47
def hdB (r:Str):Prop:=∀ c,r.head? = some c->c≠46/\c≠61/\c≠62/\c≠47
variable {r:Str}
theorem vR.hd (h:vR r):hdB r:=λc e=>(h c e).2
theorem nZ {c:UInt8} (h:iC c=false/\c≠46/\c≠61/\c≠62/\c≠47):vR (c::r):=λd e=>by cases e;exact h
theorem gI {c:UInt8} (h:c≠46/\c≠61/\c≠62/\c≠47):hdB (c::r):=λd e=>by cases e;exact h
theorem zT {q:UInt8->Bool}:∀ {w r:Str},w.all q=true->(∀ c,r.head? = some c->q c=false)->pre q (w++r)=w.length
 | [],[],_,_=>rfl
 | [],c::r,_,h=>by unfold pre;rw [cU,eA,h c rfl];rfl
 | a::w,r,hw,h=>by
  rw [eY,aF] at hw;have:=zT hw.2 h;unfold pre at this|-;rw [bT,eA,hw.1];simp [this]
theorem RL {q:UInt8->Bool}:∀ {w:Str},pre q w=w.length->w.all q=true
 | [],_=>rfl
 | a::w,h=>by
  unfold pre at h;rw [eA] at h;cases ha:q a with
  | false=>rw [ha] at h;simp at h
  | true =>
   rw [ha] at h;have:=RL (q:=q) (w:=w) (by unfold pre;simpa using h);rw [eY,ha,this];rfl
theorem MM {Q:UInt8->Prop} (h:∀ i∈List.range 256,Q (UInt8.ofNat i)) (c:UInt8):Q c:=by
 have:=h c.toNat (cD.2 c.toNat_lt)
 rwa [fC] at this
theorem KA (c:UInt8) (h:mW c=true):kZ c=false/\c≠47/\c≠46/\c≠61/\c≠62/\iC c=true/\iA c=false:=by
 revert h
 exact MM (Q:=λc=>mW c=true->kZ c=false/\c≠47/\c≠46/\c≠61/\c≠62/\iC c=true/\iA c=false) (by decide +kernel) c
theorem SU (c:UInt8) (h:iA c=true):kZ c=false/\c≠47/\c≠46/\c≠61/\c≠62/\mW c=false:=by
 revert h
 exact MM (Q:=λc=>iA c=true->kZ c=false/\c≠47/\c≠46/\c≠61/\c≠62/\mW c=false) (by decide +kernel) c
theorem bJ0 (c:UInt8) (h:iC c=false):iA c=false:=by
 revert h
 exact MM (Q:=λc=>iC c=false->iA c=false) (by decide +kernel) c
theorem aG4:∀ w∈words,w.length<=12:=by decide +kernel
variable {w:Str}
theorem TS {k:UInt8} (h0:w≠[]) (hl:mW (w.headD 0)=true) (hw:w.all iC=true) (hk:(if words.contains w then (2:UInt8) else if w.length<=12 then 1 else 5)=k) (h5:k≠5) (hr:vR r):Tok (k,w) r:=by
 match w,h0 with
 | c::t,h0 =>
  have hlb:=KA c hl;have hp:pre iC ((c::t)++r)=(c::t).length:=zT hw λd hd=>(hr d hd).1;refine ⟨h0,?_,?_,h5,?_⟩
  ·show bU ((c::t)++r)=(k,(c::t).length);unfold bU;simp only;rw [show ((c::t)++r).headD 0=c from rfl,show mW c=true from hl,aO rfl,hp,jG]
   split at hk
   ·rename_i e;rw [aO e,<-hk]
   ·rename_i e;rw [aG e]
    split at hk
    ·rename_i e2;rw [aO e2,<-hk]
    ·exact absurd hk.symm h5
  ·exact oW hlb.1 (λe=>hlb.2.1 e.1)
  ·show (c::t).length<=1000000
   split at hk
   ·rename_i e;have:=aG4 _ (fR.1 e);omega
   ·split at hk
    ·omega
    ·exact absurd hk.symm h5
theorem VF:∀ w∈words,w≠[]/\mW (w.headD 0)=true/\w.all iC=true:=by decide +kernel
theorem aR9 (hw:w∈words) (hr:vR r):Tok (2,w) r:=by
 obtain ⟨h1,h2,h3⟩:=VF w hw;exact TS h1 h2 h3 (by rw [aO (fR.2 hw)]) (by decide) hr
theorem mV (h:eN w=true):w≠[]/\mW (w.headD 0)=true/\w.all iC=true/\words.contains w=false/\w.length<=12:=by
 have hlen:=aW4 h;simp only [eN,aF,aD,dL] at h;obtain ⟨⟨h0,h1⟩,h2⟩:=h
 match w,h0 with
 | c::t,h0 =>
  have hl:=OZ h1
  have h3:words.contains ((c::t).take (pre iC (c::t)))=false/\pre iC (c::t)=(c::t).length:=by
   unfold bU at h1 h2;simp only [aN,hl,aY] at h1 h2
   split at h1
   ·simp at h1
   ·rename_i e;rw [aG e] at h2
    split at h1
    ·rename_i e2;rw [aO e2] at h2;exact ⟨by simpa using e,h2⟩
    ·simp at h1
  obtain ⟨h4,h5⟩:=h3;rw [h5,aZ] at h4;exact ⟨h0,hl,RL h5,h4,hlen⟩
theorem aR8 (hw:eN w=true) (hr:vR r):Tok (1,w) r:=by
 obtain ⟨h1,h2,h3,h4,h5⟩:=mV hw;exact TS h1 h2 h3 (by rw [h4,aG (by decide),aO h5]) (by decide) hr
theorem JZ (hw:eN w=true):hdB (w++r):=by
 obtain ⟨h1,h2,_⟩:=mV hw
 match w,h1 with
 | c::t,_=>have:=KA c h2;exact gI ⟨this.2.2.1,this.2.2.2.1,this.2.2.2.2.1,this.2.1⟩
theorem LS (hw:w∈words):hdB (w++r):=by
 obtain ⟨h1,h2,_⟩:=VF w hw
 match w,h1 with
 | c::t,_=>have:=KA c h2;exact gI ⟨this.2.2.1,this.2.2.2.1,this.2.2.2.2.1,this.2.1⟩
theorem HT:∀ (u:Nat),∃ c t,Lib.decDigits u=c::t/\(t=[]\/c≠48)/\(u≠0->c≠48):=by
 intro u;induction u using Nat.strongRecOn with
 | _ u ih =>
  by_cases h:u<10
  ·rw [Lib.decDigits_one h];refine ⟨_,[],Z,.inl rfl,λhu e=>?_⟩;have:=congrArg UInt8.toNat e;rw [Plain.digit_nat u h] at this;have h48:(48:UInt8).toNat=48:=rfl;omega
  ·rw [Plain.digits_more u h];obtain ⟨c,t,e,_,h2⟩:=ih (u / 10) (by omega);rw [e];exact ⟨c,_,Z,.inr (h2 (by omega)),λ_=>h2 (by omega)⟩
theorem aF5 {u:Nat} (h:u<=9223372036854775808):(Lib.decDigits u).length<=21:=by
 have h1:=Lib.itoa_length_le (-(u:Int)) (by omega) (by omega)
 by_cases h0:u=0
 ·subst h0;decide +kernel
 ·rw [Lib.itoa,aO (by omega),show (-(u:Int)).natAbs=u by omega,aI] at h1;omega
theorem bZ9 {n:Int64} :n.toInt.toNat<=9223372036854775808:=by have:=n.toInt_lt;omega
theorem bF2 {u:Nat} (hu:u<=9223372036854775808) (hr:vR r):Tok (3,Lib.decDigits u) r:=by
 have hdl:=aF5 hu;obtain ⟨c,t,e,h2,_⟩:=HT u
 have hall:(Lib.decDigits u).all iA=true:=bC.2 λd hd=>by
  have:=Plain.digits_are u d hd;simp only [iA,aF,aD];exact this
 have hp:pre iA (Lib.decDigits u++r)=(Lib.decDigits u).length:=zT hall λd hd=>bJ0 d (hr d hd).1;rw [e] at hall hp hdl|-;rw [eY,aF] at hall;have hb:=SU c hall.1;refine ⟨by simp,?_,oW hb.1 (λe=>hb.2.1 e.1),(show (3:UInt8)≠5 by decide),(by show (c::t).length<=1000000;omega)⟩;show bU ((c::t)++r)=(3,(c::t).length);unfold bU;simp only;rw [show ((c::t)++r).headD 0=c from rfl,hb.2.2.2.2.2,aG (by decide),hall.1,aO rfl,hp];refine aO ?_;rcases h2 with rfl | h2
 ·exact .inl Z
 ·exact .inr h2
theorem bS1 {u:Nat} :hdB (Lib.decDigits u++r):=by
 obtain ⟨c,t,e,_⟩:=HT u;have:=Plain.digits_are u c (by rw [e];simp);have hd:iA c=true:=by simp only [iA,aF,aD];exact this
 have hb:=SU c hd;rw [e];exact gI ⟨hb.2.2.1,hb.2.2.2.1,hb.2.2.2.2.1,hb.2.1⟩
def bF5:Str:=[123,125,40,41,91,93,44,59,58,46,61,60,62,43,45,42,47,37]
theorem aA1 {c:UInt8} (hc:c∈bF5) (hr:hdB r):Tok (4,[c]) r:=by
 have hx:∀ d,r.head? = some d->d≠46/\d≠61/\d≠62/\d≠47:=hr;refine ⟨by simp,?_,?_,(show (4:UInt8)≠5 by decide),(by show (1:Nat)<=_;omega)⟩
 ·show bU (c::r)=(4,1);have hl:mW c=false/\iA c=false:=by revert c;decide
  have hf:symbols.find? (λx=>x.isPrefixOf (c::r))=some [c]:=by
   cases r with
   | nil=>revert c;decide
   | cons d t =>
    obtain ⟨e1,e2,e3,e4⟩:=hx d rfl;have b1:((46:UInt8) == d)=false:=sO (qY e1);have b2:((61:UInt8) == d)=false:=sO (qY e2);have b3:((62:UInt8) == d)=false:=sO (qY e3);simp only [bF5,bV,List.not_mem_nil,or_false] at hc
    rcases hc with rfl | rfl | rfl | rfl | rfl | rfl | rfl | rfl | rfl | rfl | rfl | rfl | rfl | rfl | rfl | rfl | rfl | rfl <;>
     simp [symbols,List.find?,List.isPrefixOf,b1,b2,b3]
  unfold bU;simp only [aN,hl.1,hl.2,hf,aE,aW,yK]
 ·refine oW (by revert c;decide) ?_;rintro ⟨_,h⟩;exact (hx 47 h).2.2.2 rfl
def bQ2:List Str:=[[61,61],[33,61],[60,61],[62,61],[45,62]]
theorem aA0 (hw:w∈bQ2):Tok (4,w) r:=by
 simp only [bQ2,bV,List.not_mem_nil,or_false] at hw;rcases hw with rfl | rfl | rfl | rfl | rfl <;> refine ⟨by simp,?_,?_,(show (4:UInt8)≠5 by decide),(by show (2:Nat)<=_;omega)⟩ <;> simp [bU,mW,iA,symbols,List.find?,List.isPrefixOf,eG,kZ]
theorem tJ:vR (32::r):=nZ (by decide)
theorem YS:vR (41::r):=nZ (by decide)
theorem SW:vR (91::r):=nZ (by decide)
theorem YX:vR (93::r):=nZ (by decide)
theorem Lx.sp {k:List Kt} (h:Lx r k):Lx (32::r) k:=.blk (by decide) h
theorem Lx.sy {c:UInt8} {k:List Kt} (hc:c∈bF5) (hr:hdB r) (h:Lx r k):Lx (c::r) ((4,[c])::k):=.tok (x:=(4,[c])) (aA1 hc hr) h
theorem Lx.kw {k:List Kt} (hw:w∈words) (hr:vR r) (h:Lx r k):Lx (w++r) ((2,w)::k):=.tok (x:=(2,w)) (aR9 hw hr) h
theorem Lx.nm {k:List Kt} (hw:eN w=true) (hr:vR r) (h:Lx r k):Lx (w++r) ((1,w)::k):=.tok (x:=(1,w)) (aR8 hw hr) h
theorem Lx.nu {u:Nat} {k:List Kt} (hu:u<=9223372036854775808) (hr:vR r) (h:Lx r k):Lx (Lib.decDigits u++r) ((3,Lib.decDigits u)::k):=.tok (x:=(3,Lib.decDigits u)) (bF2 hu hr) h
def LxE (e:Ex):Prop:=∀ r ks,vR r->Lx r ks->Lx (e.text++r) (ktE e++ks)/\hdB (e.text++r)
variable {ks:List Kt}
theorem LxE.opnd {e:Ex} (h:LxE e) (n:Nat) (hr:vR r) (hk:Lx r ks):Lx (opT n (e.lv,e.text)++r) (DE n e.lv (ktE e)++ks)/\hdB (opT n (e.lv,e.text)++r):=by
 unfold opT DE;simp only
 split
 ·simp only [bT,cU,aX];obtain ⟨h1,h2⟩:=h (41::r) ((4,[41])::ks) YS (.sy (by decide) hr.hd hk);exact ⟨.sy (by decide) h2 h1,gI (by decide)⟩
 ·exact h r ks hr hk
theorem bC8:∀ op∈([11,12,13,14,15,16,17,18,19,20,21,22,23]:List UInt8),(cK op).tx=32::((EF op).2++[32])/\(((EF op).1=2/\(EF op).2∈words)\/((EF op).1=4/\((EF op).2∈bQ2\/∃ c∈bF5,(EF op).2=[c]))):=by decide +kernel
theorem Lx.bin {op:UInt8} (h:op∈([11,12,13,14,15,16,17,18,19,20,21,22,23]:List UInt8)) {k:List Kt} (hk:Lx r k):Lx ((cK op).tx++r) (EF op::k):=by
 obtain ⟨h1,h2⟩:=bC8 op h;rw [h1];simp only [bT,aX,cU];refine .sp ?_;have hs:=hk.sp;refine .tok (x:=EF op) ?_ hs;generalize EF op=x at h2;obtain ⟨k,w⟩:=x;rcases h2 with ⟨e,hw⟩ | ⟨e,hw | ⟨c,hc,hw⟩⟩
 ·obtain rfl:k=2:=e;exact aR9 hw tJ
 ·obtain rfl:k=4:=e;exact aA0 hw
 ·obtain rfl:k=4:=e;obtain rfl:w=[c]:=hw;exact aA1 hc tJ.hd
theorem bS3 (e:Ex):Ex.all oZ e=true->Ex.all aW5 e=true->LxE e:=by
 induction e using Ex.ind with
 | _ op nm n args ih =>
  intro h hq;rw [lS,aF] at h hq;obtain ⟨hf,hr⟩:=h;obtain ⟨hg,hq⟩:=hq;have ha:∀ a∈args,LxE a:=λa m=>ih a m (iQ m hr) (iQ m hq);simp only [oZ,aF,aT,aD] at hf;simp only [aW5,aT,eT] at hg;obtain ⟨⟨⟨hop,hl⟩,hnm⟩,hn⟩:=hf;have hm:=FZ hop;intro r ks hs hk
  by_cases h1:op=1
  ·subst h1;rw [aO rfl,aD] at hn
   have e1:Ex.text (.mk 1 nm n args)=Lib.decDigits n.toInt.toNat:=by
    rw [Ex.text,txt,aO rfl,Lib.itoa,aG (by omega)]
   have e2:ktE (.mk 1 nm n args)=[(3,Lib.decDigits n.toInt.toNat)]:=by
    rw [ktE,ktx,aO rfl,Lib.itoa,aG (by omega)]
   rw [e1,e2];exact ⟨.nu bZ9 hs hk,bS1⟩
  rw [aG h1,aD] at hn;obtain rfl:=VK hn
  by_cases hb:op∈([11,12,13,14,15,16,17,18,19,20,21,22,23]:List UInt8)
  ·obtain ⟨b1,_,_,_,_,_,_,g1,g2,g3,g4,g5,g6,g7⟩:=zD op hb;obtain ⟨a,b,rfl⟩:=qC (l:=args) (by omega)
   have e1:Ex.text (.mk op nm 0 [a,b])=opT (xN (cK op).lv) (a.lv,a.text)++(cK op).tx++opT ((cK op).lv+1) (b.lv,b.text):=by
    rw [Ex.text,txt,aG g1,aG (by simp [g2,g3]),aG (by simp [g4,g5]),aG (by simp [g6,g7]),aG (by omega)]
    rfl
   rw [e1,SE hb];simp only [aX,bT];obtain ⟨k1,_⟩:=(ha b (by simp)).opnd ((cK op).lv+1) hs hk;have k2:=Lx.bin hb k1;refine (ha a (by simp)).opnd (xN (cK op).lv) ?_ k2;rw [(bC8 op hb).1];exact tJ
  have hs9:op=2\/op=3\/op=4\/op=5\/op=6\/op=7\/op=8\/op=9\/op=10:=((LJ hop).resolve_left h1).resolve_left hb
  have key:∀ a,LxE a->Lx (91::(a.text++93::r)) ((4,[91])::(ktE a++(4,[93])::ks)):=by
   intro a hA;obtain ⟨k1,k2⟩:=hA (93::r) ((4,[93])::ks) YX (.sy (by decide) hs.hd hk);exact .sy (by decide) k2 k1
  have hn5:(cK op).nm=true->eN nm=true:=λe=>hg.resolve_left (by rw [e];decide);rcases hs9 with rfl | rfl | rfl | rfl | rfl | rfl | rfl | rfl | rfl
  ·exact ⟨Lx.kw (w:=[116,114,117,101]) (by decide) hs hk,LS (w:=[116,114,117,101]) (by decide)⟩
  ·exact ⟨Lx.kw (w:=[102,97,108,115,101]) (by decide) hs hk,LS (w:=[102,97,108,115,101]) (by decide)⟩
  ·exact ⟨Lx.kw (w:=[110,111,119]) (by decide) hs hk,LS (w:=[110,111,119]) (by decide)⟩
  ·exact ⟨Lx.nm (hn5 rfl) hs hk,JZ (hn5 rfl)⟩
  ·obtain ⟨a,rfl⟩:=xW hl;have e1:Ex.text (.mk 6 nm 0 [a])++r=nm++91::(a.text++93::r):=by rw [jF];simp [txt,cK,GA,shapes]
   have e2:ktE (.mk 6 nm 0 [a])++ks=(1,nm)::(4,[91])::(ktE a++(4,[93])::ks):=by
    rw [show ktE (.mk 6 nm 0 [a])=(1,nm)::(4,[91])::(ktE a++[(4,[93])]) from rfl];simp
   rw [e1,e2];exact ⟨.nm (hn5 rfl) SW (key a (ha a (by simp))),JZ (hn5 rfl)⟩
  ·obtain ⟨a,rfl⟩:=xW hl;have e1:Ex.text (.mk 7 nm 0 [a])++r=[104,97,115]++32::(nm++91::(a.text++93::r)):=by rw [jF];simp [txt,cK,GA,shapes]
   have e2:ktE (.mk 7 nm 0 [a])++ks=(2,[104,97,115])::(1,nm)::(4,[91])::(ktE a++(4,[93])::ks):=by
    rw [show ktE (.mk 7 nm 0 [a])=(2,[104,97,115])::(1,nm)::(4,[91])::(ktE a++[(4,[93])]) from rfl];simp
   rw [e1,e2];exact ⟨.kw (by decide) tJ (.sp (.nm (hn5 rfl) SW (key a (ha a (by simp))))),LS (by decide)⟩
  ·obtain rfl:=args0 hl;have e1:Ex.text (.mk 8 nm 0 [])++r=[115,105,122,101]++32::(nm++r):=by rw [jF];simp [txt,cK,GA,shapes]
   rw [e1];exact ⟨.kw (by decide) tJ (.sp (.nm (hn5 rfl) hs hk)),LS (by decide)⟩
  ·obtain ⟨a,rfl⟩:=xW hl;obtain ⟨k1,k2⟩:=(ha a (by simp)).opnd 6 hs hk;have e1:Ex.text (.mk 9 nm 0 [a])++r=45::(opT 6 (a.lv,a.text)++r):=by rw [jF];rfl
   rw [e1];exact ⟨.sy (by decide) k2 k1,gI (by decide)⟩
  ·obtain ⟨a,rfl⟩:=xW hl;obtain ⟨k1,k2⟩:=(ha a (by simp)).opnd 6 hs hk;have e1:Ex.text (.mk 10 nm 0 [a])++r=[110,111,116]++32::(opT 6 (a.lv,a.text)++r):=by rw [jF];rfl
   rw [e1];exact ⟨.kw (by decide) tJ (.sp k1),LS (by decide)⟩
end Go.Proofs.YtidclioghdbphaaGreatDoor
namespace Go.Proofs.YtidclioghdbphaaGreatDoor
open Go.RowKit Go.Par Go.Sx Tryz
theorem HG:∀ l,JB l=l.any pI
 | []=>rfl
 | e::r=>by rw [JB,List.any_cons,HG r]
theorem sI:∀ l,zO l=l.all dS
 | []=>rfl
 | e::r=>by rw [zO,eY,sI r]
theorem aD1 (op:UInt8) (nm:Str) (n:Int64) (args:List Ex):pI (.mk op nm n args)=((decide (op=5) && !xV nm && !eN nm) || ((decide (op=6) || decide (op=8)) && !xV nm) || args.any pI):=by rw [pI,HG]
def bB4 (f:Fm):Bool:=f.ex.any λe=>decide (9<e.depth) || (decide (8<e.depth) && !decide (f.op=3))
theorem aL1 (f:Fm):bB4 f=!oS f:=by
 unfold bB4 oS;rw [Bool.not_not]
 congr 1
 funext e
 by_cases h:f.op=3
 ·rw [aO h,aK h];simp
 ·rw [aG h,aM h];rw [aU];simp;omega
def tnB (op:UInt8) (nm:Str):Bool :=
 if op=5\/op=6\/op=8 then (match fD nm with | some (a,b)=>eN a && eN b | none=>decide (op=5) && eN nm) else true
theorem YB:∀ {l:Str},l.all iC=true->fD l=none
 | [],_=>rfl
 | c::r,h=>by
  rw [eY,aF] at h
  have hc:¬ c=46:=by
   rintro rfl;exact absurd h.1 (by decide)
  rw [fD,aG hc,YB h.2];rfl
theorem YC {n:Str} (h:eN n=true):fD n=none:=YB (mV h).2.2.1
theorem aS0 (op:UInt8) (nm:Str):((decide (op=5) && !xV nm && !eN nm) || ((decide (op=6) || decide (op=8)) && !xV nm))=!tnB op nm:=by
 unfold tnB xV
 by_cases h5:op=5
 ·subst h5;rw [aO (.inl Z)];cases hs:fD nm with
  | none=>simp
  | some x =>
   have hn:eN nm=false:=by
    cases h:eN nm with
    | false=>rfl
    | true=>rw [YC h] at hs;cases hs
   rw [hn];simp
 ·by_cases h6:op=6\/op=8
  ·rw [aO (.inr h6)];have e:(decide (op=6) || decide (op=8))=true:=by rcases h6 with rfl | rfl <;> decide
   rw [e,aM h5];cases hs:fD nm with
   | none=>simp
   | some x=>simp
  ·have e:(decide (op=6) || decide (op=8))=false:=by
    simp only [rK] at h6;rw [aM h6.1,aM h6.2];rfl
   rw [aG (by rintro (h | h | h);exact h5 h;exact h6 (.inl h);exact h6 (.inr h)),e,aM h5];rfl
def fdN (op:UInt8):Bool:=(decide (4<=op.toNat) && decide (op.toNat<=7)) || (decide (16<=op.toNat) && decide (op.toNat<=18))
def fdF (op:UInt8):Bool:=decide (op=4) || decide (op=5) || decide (op=7)
theorem oD {q:UInt8->Prop} [DecidablePred q] (h:∀ i∈List.range 256,q (UInt8.ofNat i)) (op:UInt8):q op:=by
 have:=h op.toNat (cD.2 op.toNat_lt)
 rwa [fC] at this
theorem bO3 (op:UInt8):(cS op).nm=fdN op:=oD (q:=λop=>(cS op).nm=fdN op) (by decide +kernel) op
theorem bO4 (op:UInt8):(cS op).fd=fdF op:=oD (q:=λop=>(cS op).fd=fdF op) (by decide +kernel) op
def TR (op:UInt8) (nm:Str) (n:Int64) (k:Nat):Bool :=
 (decide (op=1) || decide (op=4) || decide (op=5) || decide (op=6) || decide (op=8) || decide (op=9) || (decide (11<=op.toNat) && decide (op.toNat<=15))) && decide (arR op.toNat=(k:Nat)) && (decide (op=1) || decide (n=0)) && decide (0<=n.toInt) && (decide (nm=[]) || decide (op=5) || decide (op=6) || decide (op=8))
def aV4 (op:UInt8):Int:=if op.toNat<1\/18<op.toNat then -1 else if op.toNat<=7 then 0 else if (9<=op.toNat/\op.toNat<=11)\/op.toNat=15 then 2 else 1
theorem bU0 (op:UInt8):(¬ (cS op).lv=0/\aV4 op=((cS op).ar:Nat))\/((cS op).lv=0/\aV4 op=-1):=oD (q:=λop=>(¬ (cS op).lv=0/\aV4 op=((cS op).ar:Nat))\/((cS op).lv=0/\aV4 op=-1)) (by decide +kernel) op
variable {k n:Nat}
theorem PP {m:Int} (h:m=(k:Nat)):decide (m=(n:Nat))=decide (n=k):=by
 rw [h,aU,aD,aD];omega
theorem qI (op:UInt8) (nm:Str) (n:Int64) (args:List Ex):dS (.mk op nm n args)=(TR op nm n args.length && args.all dS):=by
 rw [dS,sI];unfold TR
 have r1:decide (n=0)=true->decide (0<=n.toInt)=true:=by
  intro h;rw [aD] at h;subst h
  decide
 have r2:decide (args.length=0)=true->args.all dS=true:=by
  intro h;rw [aD] at h;rw [bQ h];rfl
 generalize args.all dS=z at r2|-;generalize decide (0<=n.toInt)=c at r1|-;generalize decide (n=0)=b at r1|-;generalize decide (nm=[])=a
 by_cases h1:op=1
 ·subst h1;rw [PP (k:=0) (by decide)];generalize decide (args.length=0)=d at r2|-;simp only [aY]
  revert a b c d z;decide
 by_cases h4:op=4
 ·subst h4;rw [PP (k:=0) (by decide)];generalize decide (args.length=0)=d at r2|-;simp only [aG (show ¬ (4:UInt8)=1 by decide),aY]
  revert a b c d z;decide
 by_cases h5:op=5\/op=8
 ·rw [aG h1,aG h4,aO h5];have e:arR op.toNat=0:=by rcases h5 with rfl | rfl <;> decide
  rw [PP (k:=0) (by rw [e];rfl)];generalize decide (args.length=0)=d at r2|-;rcases h5 with rfl | rfl <;> (revert a b c d z;decide)
 by_cases h6:op=6
 ·subst h6;rw [PP (k:=1) (by decide)];generalize decide (args.length=1)=d;clear r2;simp only [aG (show ¬ (6:UInt8)=1 by decide),aG (show ¬ (6:UInt8)=4 by decide),aG (show ¬ ((6:UInt8)=5\/(6:UInt8)=8) by decide),aY]
  revert a b c d z;decide
 by_cases h9:op=9
 ·subst h9;rw [PP (k:=1) (by decide)];generalize decide (args.length=1)=d;clear r2;simp only [aG (show ¬ (9:UInt8)=1 by decide),aG (show ¬ (9:UInt8)=4 by decide),aG (show ¬ ((9:UInt8)=5\/(9:UInt8)=8) by decide),aG (show ¬ (9:UInt8)=6 by decide),aY]
  revert a b c d z;decide
 rw [aG h1,aG h4,aG h5,aG h6,aG h9];clear r2
 by_cases hb:op=11\/op=12\/op=13\/op=14\/op=15
 ·rw [aO hb];have e:arR op.toNat=2:=by rcases hb with rfl | rfl | rfl | rfl | rfl <;> decide
  rw [PP (k:=2) (by rw [e];rfl)];generalize decide (args.length=2)=d;rcases hb with rfl | rfl | rfl | rfl | rfl <;> (revert a b c d z;decide)
 ·rw [aG hb]
  have e:(decide (op=1) || decide (op=4) || decide (op=5) || decide (op=6) || decide (op=8) || decide (op=9) || (decide (11<=op.toNat) && decide (op.toNat<=15)))=false:=by
   have:=oD (q:=λop=>op=1\/op=4\/(op=5\/op=8)\/op=6\/op=9\/(op=11\/op=12\/op=13\/op=14\/op=15)\/(decide (op=1) || decide (op=4) || decide (op=5) || decide (op=6) || decide (op=8) || decide (op=9) || (decide (11<=op.toNat) && decide (op.toNat<=15)))=false) (by decide +kernel) op;rcases this with h | h | h | h | h | h | h
   ·exact absurd h h1
   ·exact absurd h h4
   ·exact absurd h h5
   ·exact absurd h h6
   ·exact absurd h h9
   ·exact absurd h hb
   ·exact h
  rw [e];rfl
structure Nf where
 op:UInt8
 nm:UInt8
 fd:UInt8
 ct:UInt8
 odd:Bool
 a:Int64
 b:Int64
 ts:List Nd
def dNf (x:Nf):D:=.str [.val (.int .u8 x.op.toNat),.val (.int .u8 x.nm.toNat),.val (.int .u8 x.fd.toNat),.val (.int .u8 x.ct.toNat),.val (.bool x.odd),.val (.int .i64 x.a.toInt),.val (.int .i64 x.b.toInt),.seq 5 (x.ts.map dNd)]
def cNf (x:Nf) (s:Value):List Value:=[.int .u8 x.op.toNat,.int .u8 x.nm.toNat,.int .u8 x.fd.toNat,.int .u8 x.ct.toNat,.bool x.odd,.int .i64 x.a.toInt,.int .i64 x.b.toInt,s]
variable {H:Hp}
theorem aC8 {x:Nf} {cs:List Value} (h:Rep H (dNf x) cs):∃ p c,cs=cNf x (.slice p x.ts.length c)/\Rep H (.seq 5 (x.ts.map dNd)) [.slice p x.ts.length c]:=by
 rw [dNf,UK] at h;obtain ⟨_,rfl,_,_,h⟩:=fE.1 h;obtain ⟨_,rfl,_,_,h⟩:=fE.1 h;obtain ⟨_,rfl,_,_,h⟩:=fE.1 h;obtain ⟨_,rfl,_,_,h⟩:=fE.1 h;obtain ⟨_,rfl,_,_,h⟩:=fE.1 h;obtain ⟨_,rfl,_,_,h⟩:=fE.1 h;obtain ⟨_,rfl,_,_,h⟩:=fE.1 h;obtain ⟨p,c,_,rfl,hs,h⟩:=FU.1 h;rw [vK] at h;subst h;rw [bJ] at hs;exact ⟨p,c,by rw [bJ];rfl,hs⟩
def pr1 (op:UInt8):UInt8:=if op=7\/op=10 then 9 else op
def pr2 (op:UInt8):UInt8:=if op=2\/op=3 then 4 else op
def pr3 (op:UInt8):UInt8:=if 16<=op.toNat then UInt8.ofNat (11+op.toNat % 5) else op
def prO (op:UInt8):UInt8:=pr3 (pr2 (pr1 op))
def prM (op:UInt8) (nm:Str):Str:=if op=7\/op=10 then [] else nm
def prN (op:UInt8) (nm:Str):Str:=if op=6\/op=8\/(op=5/\nm.length % 2=0) then [99,46]++nm else nm
mutual
def prE:Ex->Ex
 | .mk op nm n args=>.mk (prO op) (prN (prO op) (prM op nm)) n (bH2 args)
def bH2:List Ex->List Ex
 | []=>[]
 | e::r=>prE e::bH2 r
end
theorem UO:∀ l,bH2 l=l.map prE
 | []=>rfl
 | e::r=>by rw [bH2,UO r];rfl
theorem RN (op:UInt8) (nm:Str) (n:Int64) (args:List Ex):prE (.mk op nm n args)=.mk (prO op) (prN (prO op) (prM op nm)) n (args.map prE):=by rw [prE,UO]
theorem bH1 (op:UInt8) (nm:Str):(prM op nm).length<=nm.length:=by
 unfold prM
 split
 ·exact aR _
 ·exact bK _
theorem bH0 (op:UInt8) (nm:Str):(prN op nm).length<=nm.length+2:=by
 unfold prN
 split
 ·rw [aH];show 2+_<=_;omega
 ·omega
theorem aI1 (e:Ex):(prE e).count=e.count:=by
 induction e using Ex.ind with | _ op nm n args ih
 rw [RN,kC,kC]
 congr 1
 induction args with
 | nil=>rfl
 | cons a r ih2=>rw [dE,Ex.counts,Ex.counts,ih a (bD ..),ih2 λx hx=>ih x (bZ _ hx)]
theorem aI0 (e:Ex):(prE e).depth=e.depth:=by
 induction e using Ex.ind with | _ op nm n args ih
 rw [RN,qO,qO]
 congr 1
 induction args with
 | nil=>rfl
 | cons a r ih2=>rw [dE,Ex.deeps,Ex.deeps,ih a (bD ..),ih2 λx hx=>ih x (bZ _ hx)]
theorem XW (e:Ex):Ex.all vS (prE e)=Ex.all vS e:=by
 induction e using Ex.ind with | _ op nm n args ih
 rw [RN,lS,lS,uL,uL,bJ,lC,lC]
 congr 1
 rw [aU,bC,bC]
 constructor
 ·intro h x hx;rw [<-ih x hx];exact h _ (lM.2 ⟨x,hx,Z⟩)
 ·intro h x hx;obtain ⟨y,hy,rfl⟩:=lM.1 hx;rw [ih y hy];exact h y hy
def gdE (e:Ex):Bool:=decide (e.depth<=34) && Ex.all vS e
def gdN (f:Fm):Bool:=decide (f.op.toNat<=18) && decide (f.ex.length<=4) && decide (f.args.length<=3) && f.ex.all gdE
def gdF (f:Fm):Bool:=Fm.all gdN f
variable {a:Int64}
theorem SJ {op:UInt8} {nm fd:Str} {b:Int64} {ex:List Ex} {args:List Fm} :gdF (.mk op nm fd a b ex args)=true↔(op.toNat<=18/\ex.length<=4/\args.length<=3/\∀ e∈ex,gdE e=true)/\∀ g∈args,gdF g=true:=by
 unfold gdF;rw [fJ,aF,bC];unfold gdN;rw [aF,aF,aF,aD,aD,aD,bC];exact ⟨λh=>⟨⟨h.1.1.1.1,h.1.1.1.2,h.1.1.2,h.1.2⟩,h.2⟩,λh=>⟨⟨⟨⟨h.1.1,h.1.2.1⟩,h.1.2.2.1⟩,h.1.2.2.2⟩,h.2⟩⟩
theorem NA:cZ prg 129=true:=by kernel_rfl
theorem PO (e:Ex):∃ o m n a,e=.mk o m n a:=by
 obtain ⟨o,m,n,a⟩:=e;exact ⟨o,m,n,a,Z⟩
variable {m:Str}
theorem cC4 {o:UInt8} (h:((o.toNat:Nat):Int)=7):((9:UInt8),([]:Str))=(pr1 o,prM o m):=by unfold pr1 prM;rw [aO (.inl (aS.1 (by show o.toNat=7;omega):o=7)),aO (.inl (aS.1 (by show o.toNat=7;omega):o=7))]
theorem cC3 {o:UInt8} (h:((o.toNat:Nat):Int)=10):((9:UInt8),([]:Str))=(pr1 o,prM o m):=by unfold pr1 prM;rw [aO (.inr (aS.1 (by show o.toNat=10;omega):o=10)),aO (.inr (aS.1 (by show o.toNat=10;omega):o=10))]
theorem cC2 {o:UInt8} (h:¬ ((o.toNat:Nat):Int)=7) (k:¬ ((o.toNat:Nat):Int)=10):(o,m)=(pr1 o,prM o m):=by unfold pr1 prM;rw [aG (rK.2 ⟨(λe:o=7=>h (by rw [e];rfl)),(λe:o=10=>k (by rw [e];rfl))⟩),aG (rK.2 ⟨(λe:o=7=>h (by rw [e];rfl)),(λe:o=10=>k (by rw [e];rfl))⟩)]
theorem cC1 {o:UInt8} (h:((o.toNat:Nat):Int)=2):((4:UInt8),m)=(pr2 o,m):=by unfold pr2;rw [aO (.inl (aS.1 (by show o.toNat=2;omega):o=2))]
theorem cC0 {o:UInt8} (h:((o.toNat:Nat):Int)=3):((4:UInt8),m)=(pr2 o,m):=by unfold pr2;rw [aO (.inr (aS.1 (by show o.toNat=3;omega):o=3))]
theorem cB9 {o:UInt8} (h:¬ ((o.toNat:Nat):Int)=2) (k:¬ ((o.toNat:Nat):Int)=3):(o,m)=(pr2 o,m):=by unfold pr2;rw [aG (rK.2 ⟨(λe:o=2=>h (by rw [e];rfl)),(λe:o=3=>k (by rw [e];rfl))⟩)]
theorem cB7 {op:UInt8} (h:(16:Int)<=(((pr2 (pr1 op)).toNat:Nat):Int)):(UInt8.ofNat (11+(pr2 (pr1 op)).toNat % 5),m)=(prO op,m):=by unfold prO pr3;rw [aO (by omega)]
theorem cB8 {op:UInt8} (h:¬ (16:Int)<=(((pr2 (pr1 op)).toNat:Nat):Int)):(pr2 (pr1 op),m)=(prO op,m):=by unfold prO pr3;rw [aG (by omega)]
theorem cB6 {o:UInt8} (h:((o.toNat:Nat):Int)=6):(o,([99,46]:Str)++m)=(o,prN o m):=by unfold prN;rw [aO (.inl (aS.1 (by show o.toNat=6;omega):o=6))]
theorem cB5 {o:UInt8} (h:((o.toNat:Nat):Int)=8):(o,([99,46]:Str)++m)=(o,prN o m):=by unfold prN;rw [aO (.inr (.inl (aS.1 (by show o.toNat=8;omega):o=8)))]
theorem cB4 {o:UInt8} (h:((o.toNat:Nat):Int)=5) (k:((m.length % 2:Nat):Int)=0):(o,([99,46]:Str)++m)=(o,prN o m):=by unfold prN;rw [aO (.inr (.inr ⟨(aS.1 (by show o.toNat=5;omega):o=5),by omega⟩))]
theorem cB3 {o:UInt8} (h:¬ ((o.toNat:Nat):Int)=6) (h8:¬ ((o.toNat:Nat):Int)=8) (k:¬ ((m.length % 2:Nat):Int)=0):(o,m)=(o,prN o m):=by unfold prN;rw [aG (by rintro (e | e | e);exact h (by rw [e];rfl);exact h8 (by rw [e];rfl);omega)]
theorem cB2 {o:UInt8} (h:¬ ((o.toNat:Nat):Int)=6) (h8:¬ ((o.toNat:Nat):Int)=8) (k:¬ ((o.toNat:Nat):Int)=5):(o,m)=(o,prN o m):=by unfold prN;rw [aG (by rintro (e | e | e);exact h (by rw [e];rfl);exact h8 (by rw [e];rfl);exact k (by rw [e.1];rfl))]
theorem bR0 (n:Nat):IntKind.i64.wrap (11+((n % 5:Nat):Int))=(((UInt8.ofNat (11+n % 5)).toNat:Nat):Int):=by
 rw [eW (by show 11+n % 5<256;omega)];exact (w6 (by omega)).trans (by omega)
def bM9 (e:Ex):Prop:=Ex.all n13 e=true->Ex.all vS e=true->∀ (H:Hp) (cs:List Value) (w:World),Rep H (dEx .i64 e) cs->Agr H w ->
 Calls prg 129 #[.agg cs.toArray] w λr w'=>∃ x H',Rep H' (dEx .i64 (prE e)) x/\r=.returned (.agg x.toArray)/\xD H w H' w'
theorem aI2 (e:Ex):bM9 e:=by
 induction e using Ex.ind with | _ op nm nn args ih
 intro hn hw H cs w h hA;rw [lS,aF] at hn hw;have hn3:args.length<=3:=aJ hw.1;have hn13:nm.length<=13:=aJ hn.1;have hpm:=bH1 op nm;have hpn:=bH0 (prO op) (prM op nm);obtain ⟨p,c,rfl,hs,hnm⟩:=fX h;have hcap:=hs.cap;refine Sx.enter (H:=H) func129 rfl ntmps129 rfl hA ?_;refine .sr<|.bx Z Z Z λb1=>.al iM Z λb2=>.nt<|.cu (X:=UInt8 × Str) [(1,_),(2,_)] ⟨Z,Z,Jt⟩ (λz=>[]) (λz=>H) (λz=>[.box b1 [.int .i64 (z.1).toNat,cH (z.2),.int .i64 nn.toInt,.slice p args.length c] 83,.box b2 [.int .i64 0,.string ⟨#[]⟩,.int .i64 0,.slice none 0 0] 83]) (λz=>z=(pr1 op,prM op nm)) ?_ λz hC=>?_
 ·
  refine .sr<|.fA Z cO<|.lD Z cC dC Z<|.yw (.eql Z Z)<|.mv Z<|.e2 (λh9=>?_) (λh9=>?_)
  ·exact .gG<|.gG<|.gG<|.yw (.pickT Z Z)<|.nt<|.cT Z<|.sr<|.fA Z cO<|.st mD Z Z iH Z (nb Z) Z<|.nt<|.rg<|.fA Z dD<|.st mD Z Z fQ Z (nb Z) Z<|.nt<|.me (9,([]:Str)) trivial ⟨Z,Z,Jt⟩ (λ_ s=>s.pick [1,0] [_,_] Z Z) (cC4 h9)
  refine .gy (.fieldAddr Z cO)<|.gy (.load Z cC dC Z)<|.gy (.eql Z Z)<|.yw (.pickF Z Z)<|.nt<|.ce Z (λh13=>?_) (λh13=>?_)
  ·exact .sr<|.fA Z cO<|.st mD Z Z iH Z (nb Z) Z<|.nt<|.rg<|.fA Z dD<|.st mD Z Z fQ Z (nb Z) Z<|.nt<|.me (9,([]:Str)) trivial ⟨Z,Z,Jt⟩ (λ_ s=>s.pick [1,0] [_,_] Z Z) (cC3 h13)
  exact .sk<|.tN<|.me (op,nm) trivial ⟨Z,Z,Jt⟩ (λ_ s=>s.pick [1,0] [_,_] Z Z) (cC2 h9 h13)
 subst hC;dsimp only;refine .cu (X:=UInt8 × Str) [(1,_),(2,_)] ⟨Z,Z,Jt⟩ (λz=>[]) (λz=>H) (λz=>[.box b1 [.int .i64 (z.1).toNat,cH (z.2),.int .i64 nn.toInt,.slice p args.length c] 83,.box b2 [.int .i64 0,.string ⟨#[]⟩,.int .i64 0,.slice none 0 0] 83]) (λz=>z=(pr2 (pr1 op),prM op nm)) ?_ λz hC=>?_
 ·
  refine .sr<|.fA Z cO<|.lD Z cC Hm Z<|.yw (.eql Z Z)<|.mv Z<|.e2 (λh19=>?_) (λh19=>?_)
  ·exact .gG<|.gG<|.gG<|.yw (.pickT Z Z)<|.nt<|.cT Z<|.rg<|.fA Z cO<|.st .head Z Z iH Z (nb Z) Z<|.nt<|.me (4,prM op nm) trivial ⟨Z,Z,Jt⟩ (λ_ s=>s) (cC1 h19)
  refine .gy (.fieldAddr Z cO)<|.gy (.load Z cC Hm Z)<|.gy (.eql Z Z)<|.yw (.pickF Z Z)<|.nt<|.ce Z (λh23=>?_) (λh23=>?_)
  ·exact .rg<|.fA Z cO<|.st .head Z Z iH Z (nb Z) Z<|.nt<|.me (4,prM op nm) trivial ⟨Z,Z,Jt⟩ (λ_ s=>s) (cC0 h23)
  exact .sk<|.tN<|.me (pr1 op,prM op nm) trivial ⟨Z,Z,Jt⟩ (λ_ s=>s) (cB9 h19 h23)
 subst hC;dsimp only;refine .cu (X:=UInt8 × Str) [(1,_),(2,_)] ⟨Z,Z,Jt⟩ (λz=>[]) (λz=>H) (λz=>[.box b1 [.int .i64 (z.1).toNat,cH (z.2),.int .i64 nn.toInt,.slice p args.length c] 83,.box b2 [.int .i64 0,.string ⟨#[]⟩,.int .i64 0,.slice none 0 0] 83]) (λz=>z=(prO op,prM op nm)) ?_ λz hC=>?_
 ·
  refine .sr<|.fA Z cO<|.lD Z cC Hm Z<|.yw (.geq Z Z)<|.nt<|.ce Z (λh27=>?_) (λh27=>?_)
  ·exact .rg<|.fA Z cO<|.lD Z cC Hm Z<|.yw (.rem Z Z (by decide) (c:=(((pr2 (pr1 op)).toNat % 5:Nat):Int)) (by rw [cW (by omega)];omega))<|.yw (.add Z Z (c:=(((UInt8.ofNat (11+(pr2 (pr1 op)).toNat % 5)).toNat:Nat):Int)) (bR0 _))<|.fA Z cO<|.st .head Z Z iH Z (nb Z) Z<|.nt<|.me (UInt8.ofNat (11+(pr2 (pr1 op)).toNat % 5),prM op nm) trivial ⟨Z,Z,Jt⟩ (λ_ s=>s) (cB7 h27)
  exact .sk<|.tN<|.me (pr2 (pr1 op),prM op nm) trivial ⟨Z,Z,Jt⟩ (λ_ s=>s) (cB8 h27)
 subst hC;dsimp only;refine .cu (X:=UInt8 × Str) [(1,_),(2,_)] ⟨Z,Z,Jt⟩ (λz=>[]) (λz=>H) (λz=>[.box b1 [.int .i64 (z.1).toNat,cH (z.2),.int .i64 nn.toInt,.slice p args.length c] 83,.box b2 [.int .i64 0,.string ⟨#[]⟩,.int .i64 0,.slice none 0 0] 83]) (λz=>z=(prO op,prN (prO op) (prM op nm))) ?_ λz hC=>?_
 ·
  refine .sr<|.fA Z cO<|.lD Z cC Hm Z<|.yw (.eql Z Z)<|.mv Z<|.e2 (λh36=>?_) (λh36=>?_)
  ·exact .gG<|.gG<|.gG<|.yw (.pickT Z Z)<|.mv Z<|.gG<|.gG<|.gG<|.gG<|.gV<|.gV<|.gV<|.gV<|.gV<|.gG<|.yw (.pickT Z Z)<|.nt<|.cT Z<|.rg<|.fA Z dD<|.lD Z cP Hm Z<|.yw (.app Z Z (by simp only [aI,aL];omega))<|.fA Z dD<|.st .head Z Z fQ Z (nb Z) Z<|.nt<|.me (prO op,([99,46]:Str)++prM op nm) trivial ⟨Z,Z,Jt⟩ (λ_ s=>s) (cB6 h36)
  refine .gy (.fieldAddr Z cO)<|.gy (.load Z cC Hm Z)<|.gy (.eql Z Z)<|.yw (.pickF Z Z)<|.mv Z<|.e2 (λh41=>?_) (λh41=>?_)
  ·exact .gG<|.gG<|.gG<|.gG<|.gV<|.gV<|.gV<|.gV<|.gV<|.gG<|.yw (.pickT Z Z)<|.nt<|.cT Z<|.rg<|.fA Z dD<|.lD Z cP Hm Z<|.yw (.app Z Z (by simp only [aI,aL];omega))<|.fA Z dD<|.st .head Z Z fQ Z (nb Z) Z<|.nt<|.me (prO op,([99,46]:Str)++prM op nm) trivial ⟨Z,Z,Jt⟩ (λ_ s=>s) (cB5 h41)
  refine .gy (.fieldAddr Z cO)<|.gy (.load Z cC Hm Z)<|.gy (.eql Z Z)<|.gy (.move Z)<|.e2 (λh45=>?_) (λh45=>?_)
  ·refine .gy (.fieldAddr Z dD)<|.gy (.load Z cP Hm Z)<|.gy (.lenS dI Z)<|.gy (.rem Z Z (by decide) (c:=(((prM op nm).length % 2:Nat):Int)) (by rw [cW (by omega)];omega))<|.gy (.eql Z Z)<|.gy (.pickT Z Z)<|.yw (.pickF Z Z)<|.nt<|.ce Z (λh52=>?_) (λh52=>?_)
   ·exact .rg<|.fA Z dD<|.lD Z cP Hm Z<|.yw (.app Z Z (by simp only [aI,aL];omega))<|.fA Z dD<|.st .head Z Z fQ Z (nb Z) Z<|.nt<|.me (prO op,([99,46]:Str)++prM op nm) trivial ⟨Z,Z,Jt⟩ (λ_ s=>s) (cB4 h45 h52)
   exact .sk<|.tN<|.me (prO op,prM op nm) trivial ⟨Z,Z,Jt⟩ (λ_ s=>s) (cB3 h36 h41 h52)
  exact .gG<|.gG<|.gG<|.gG<|.gG<|.gy (.pickF Z Z)<|.yw (.pickF Z Z)<|.nt<|.cF Z<|.sk<|.tN<|.me (prO op,prM op nm) trivial ⟨Z,Z,Jt⟩ (λ_ s=>s) (cB2 h36 h41 h45)
 subst hC;dsimp only;refine .sr<|.aq Z<|.sq<|.sq<|?_
 refine Sx.row0 83 4 ?_;refine .rg<|.fA Z fG<|.lD Z eQ dC Z<|.yw (.lenSl eL Z)<|.mv Z<|.nt<|.bk<|.lp (X:=Nat × Hp × Value × List Value) [(1,_),(2,_),(58,_),(59,_)] ⟨Z,Z,Z,Z,Jt⟩ [_,_] (λz=>[(3,z.2.2.1),(60,iN z.1)]) (λz=>z.2.1) (λz=>[.row 83 4 z.2.2.1 z.1 z.2.2.2]) (λz=>z.1<=args.length/\HUp w H z.2.1/\eR z.2.1 4 (((args.take z.1).map prE).map (dEx .i64)) z.2.2.2) (λz=>args.length - z.1) (0,H,.slice none 0 0,[]) (λ_ s=>s) ⟨Z,Z,Jt⟩ ⟨by simp,.refl,eR.nil⟩ λz hC=>?_
 obtain ⟨k,H1,r,xs⟩:=z;dsimp only at hC|-;obtain ⟨hk0,u1,hz⟩:=hC;refine .sr<|.yw (.lss Z Z)<|.nt<|.sq<|.ce Z (λh61=>?_) (λh61=>?_)
 ·have hk:k<args.length:=by omega
  obtain ⟨bE,oE,cE,hpE,rE,lE,mE⟩:=(hs.up u1.up).elem (fW (f:=dEx .i64) hk);cases hpE;have hn1:=tT hk hn.2;have hw1:=tT hk hw.2;refine .sk<|.tN<|.sq<|.bk<|.sr<|.yw (.indexSl eL Z Z Z (by omega) (q:=oE+k * 4) Z)<|.yw (.loadMW Z dH mE lE)<|.al iM Z λb5=>.sV .head Z Z gP lE rE.one Z<|.nt<|.rg<|.mv Z<|.yw (.loadW Z dH Hm lE)<|.ct (X:=List Value) NA Z (λW s=>ih _ (bI hk) hn1 hw1 H1 cE W rE s.agr) Z λx2 H2 hc2 u2=>?_
  obtain ⟨op2,nm2,n2,qC,hx⟩:∃ o m n a,prE args[k]=.mk o m n a:=PO _;rw [hx] at hc2;obtain ⟨p2,c2,rfl,hs2,hnm2⟩:=fX hc2;exact .bl Z (sN _ _ _ _) Z λb67=>.ap (news:=[.int .i64 op2.toNat,cH nm2,.int .i64 n2.toInt,.slice p2 qC.length c2]) GR Z (λ_=>oV) Z (.box Hm z0) Z (by simp [Value.oneCell',cH]) (by simp [maxLen];omega) (by omega) Z λr68 _=>.a Z Z<|.nl<|.bN<|.tN<|.rg<|.yw (.add Z Z w7)<|.mv Z<|.nt<|.ag (x:=(k,H1,r,xs)) (k+1,H2,r68,xs++[.int .i64 op2.toNat,cH nm2,.int .i64 n2.toInt,.slice p2 qC.length c2]) ⟨Z,Z,Jt⟩ ⟨Z,Z,Z,Z,Jt⟩ (λ_ s=>(s.pick [2,3,4] _ Z Z)) ⟨by dsimp only;omega,u1.trans u2,by dsimp only;rw [wK hk,cL,cL,dE,dE,hx];exact (hz.up u2.up).snoc hc2 Z⟩ (by dsimp only;omega)
 obtain rfl:k=args.length:=by omega
 rw [aZ] at hz;refine At.ra Hm λp26 c26 e26=>?_;subst e26;refine .ex<|.eb<|.sm Z<|.fA Z fG<|.st mD Z Z uQ Z (nb Z) Z<|.ns<|.yw (.loadW Z dH dC Z)<|.sX oV Z Z gP Z<|.nt<|.rt<|?_
 refine At.pm [0,2] [_,_] rfl rfl ?_;refine lY (ds:=(args.map prE).map (dEx .i64)) (by simp) hz λH3 p3 c3 u3 hr3 hs3=>?_;refine y8 Z (.cell Z dH Hm rfl) λW s=>⟨_,H3,by rw [RN];exact rC (by omega) hs3,Z,(u1.trans u3).grow s⟩
def rfN (k:Nat):Bool:=(decide (4<=k) && decide (k<=7)) || (decide (16<=k) && decide (k<=18))
def rfF (k:Nat):Bool:=decide (k=4) || decide (k=5) || decide (k=7)
theorem EE {a b c d:Bool} (h1:a=c) (h2:b=d):Ending.returned (.tuple #[.bool a,.bool b])=.returned (.tuple #[.bool c,.bool d]):=by rw [h1,h2]
theorem EM (H:Hp) (k:Nat) (w:World) (hA:Agr H w):Calls prg 82 #[iN k] w λr w'=>r=.returned (.tuple #[.bool (rfN k),.bool (rfF k)])/\Ext w w':=by
 refine Sx.enter (H:=H) func82 rfl ntmps82 rfl hA ?_;refine .sr<|.a Z Z<|.a Z Z<|.ns<|.mv Z<|.yw (.geq Z Z)<|.mv Z<|.e2 (λh6=>?_) (λh6=>?_)
 ·refine .gy (.move Z)<|.gy (.leq Z Z)<|.yw (.pickT Z Z)<|.mv Z<|.e2 (λh10=>?_) (λh10=>?_)
  ·refine .gG<|.gG<|.gG<|.gV<|.gV<|.gG<|.yw (.pickT Z Z)<|.mv Z<|.yw (.eql Z Z)<|.mv Z<|.b2 (λh20=>?_) (λh20=>?_)
   ·try simp only [dt] at h20
    refine .gG<|.gG<|.yw (.pickT Z Z)<|.mv Z<|.gG<|.gG<|.yw (.pickT Z Z)<|.a Z Z<|.az Z<|?_
    refine y7 Z (.cons (.tmp Z) (.cons (.tmp Z) .nil)) rfl λW s=>⟨EE (by unfold rfN;rw [aU];(try simp only [aT,aF,aD,reduceCtorEq,bW,bP,bY,bM,aV,aE]);omega) (by unfold rfF;rw [aU];(try simp only [aT,aF,aD,reduceCtorEq,bW,bP,bY,bM,aV,aE]);omega),s.ext⟩
   try simp only [df] at h20
   refine .gy (.move Z)<|.gy (.eql Z Z)<|.yw (.pickF Z Z)<|.mv Z<|.b2 (λh24=>?_) (λh24=>?_)
   ·try simp only [dt] at h24
    refine .gG<|.gG<|.yw (.pickT Z Z)<|.a Z Z<|.az Z<|?_
    refine y7 Z (.cons (.tmp Z) (.cons (.tmp Z) .nil)) rfl λW s=>⟨EE (by unfold rfN;rw [aU];(try simp only [aT,aF,aD,reduceCtorEq,bW,bP,bY,bM,aV,aE]);omega) (by unfold rfF;rw [aU];(try simp only [aT,aF,aD,reduceCtorEq,bW,bP,bY,bM,aV,aE]);omega),s.ext⟩
   try simp only [df] at h24
   refine .gy (.move Z)<|.gy (.eql Z Z)<|.yw (.pickF Z Z)<|.a Z Z<|.az Z<|?_
   refine y7 Z (.cons (.tmp Z) (.cons (.tmp Z) .nil)) rfl λW s=>⟨EE (by unfold rfN;rw [aU];(try simp only [aT,aF,aD,reduceCtorEq,bW,bP,bY,bM,aV,aE]);omega) (by unfold rfF;rw [aU];(try simp only [aT,aF,aD,reduceCtorEq,bW,bP,bY,bM,aV,aE]);omega),s.ext⟩
  refine .gy (.move Z)<|.gy (.geq Z Z)<|.gy (.move Z)<|.b2 (λh13=>?_) (λh13=>?_)
  ·try simp only [dt] at h13
   refine .gy (.move Z)<|.gy (.leq Z Z)<|.gy (.pickT Z Z)<|.yw (.pickF Z Z)<|.mv Z<|.yw (.eql Z Z)<|.mv Z<|.b2 (λh20=>?_) (λh20=>?_)
   ·try simp only [dt] at h20
    refine .gG<|.gG<|.yw (.pickT Z Z)<|.mv Z<|.gG<|.gG<|.yw (.pickT Z Z)<|.a Z Z<|.az Z<|?_
    refine y7 Z (.cons (.tmp Z) (.cons (.tmp Z) .nil)) rfl λW s=>⟨EE (by unfold rfN;rw [aU];(try simp only [aT,aF,aD,reduceCtorEq,bW,bP,bY,bM,aV,aE]);omega) (by unfold rfF;rw [aU];(try simp only [aT,aF,aD,reduceCtorEq,bW,bP,bY,bM,aV,aE]);omega),s.ext⟩
   try simp only [df] at h20
   refine .gy (.move Z)<|.gy (.eql Z Z)<|.yw (.pickF Z Z)<|.mv Z<|.b2 (λh24=>?_) (λh24=>?_)
   ·try simp only [dt] at h24
    refine .gG<|.gG<|.yw (.pickT Z Z)<|.a Z Z<|.az Z<|?_
    refine y7 Z (.cons (.tmp Z) (.cons (.tmp Z) .nil)) rfl λW s=>⟨EE (by unfold rfN;rw [aU];(try simp only [aT,aF,aD,reduceCtorEq,bW,bP,bY,bM,aV,aE]);omega) (by unfold rfF;rw [aU];(try simp only [aT,aF,aD,reduceCtorEq,bW,bP,bY,bM,aV,aE]);omega),s.ext⟩
   try simp only [df] at h24
   refine .gy (.move Z)<|.gy (.eql Z Z)<|.yw (.pickF Z Z)<|.a Z Z<|.az Z<|?_
   refine y7 Z (.cons (.tmp Z) (.cons (.tmp Z) .nil)) rfl λW s=>⟨EE (by unfold rfN;rw [aU];(try simp only [aT,aF,aD,reduceCtorEq,bW,bP,bY,bM,aV,aE]);omega) (by unfold rfF;rw [aU];(try simp only [aT,aF,aD,reduceCtorEq,bW,bP,bY,bM,aV,aE]);omega),s.ext⟩
  try simp only [df] at h13
  refine .gG<|.gG<|.gy (.pickF Z Z)<|.yw (.pickF Z Z)<|.mv Z<|.yw (.eql Z Z)<|.mv Z<|.b2 (λh20=>?_) (λh20=>?_)
  ·try simp only [dt] at h20
   refine .gG<|.gG<|.yw (.pickT Z Z)<|.mv Z<|.gG<|.gG<|.yw (.pickT Z Z)<|.a Z Z<|.az Z<|?_
   refine y7 Z (.cons (.tmp Z) (.cons (.tmp Z) .nil)) rfl λW s=>⟨EE (by unfold rfN;rw [aU];(try simp only [aT,aF,aD,reduceCtorEq,bW,bP,bY,bM,aV,aE]);omega) (by unfold rfF;rw [aU];(try simp only [aT,aF,aD,reduceCtorEq,bW,bP,bY,bM,aV,aE]);omega),s.ext⟩
  try simp only [df] at h20
  refine .gy (.move Z)<|.gy (.eql Z Z)<|.yw (.pickF Z Z)<|.mv Z<|.b2 (λh24=>?_) (λh24=>?_)
  ·try simp only [dt] at h24
   refine .gG<|.gG<|.yw (.pickT Z Z)<|.a Z Z<|.az Z<|?_
   refine y7 Z (.cons (.tmp Z) (.cons (.tmp Z) .nil)) rfl λW s=>⟨EE (by unfold rfN;rw [aU];(try simp only [aT,aF,aD,reduceCtorEq,bW,bP,bY,bM,aV,aE]);omega) (by unfold rfF;rw [aU];(try simp only [aT,aF,aD,reduceCtorEq,bW,bP,bY,bM,aV,aE]);omega),s.ext⟩
  try simp only [df] at h24
  refine .gy (.move Z)<|.gy (.eql Z Z)<|.yw (.pickF Z Z)<|.a Z Z<|.az Z<|?_
  refine y7 Z (.cons (.tmp Z) (.cons (.tmp Z) .nil)) rfl λW s=>⟨EE (by unfold rfN;rw [aU];(try simp only [aT,aF,aD,reduceCtorEq,bW,bP,bY,bM,aV,aE]);omega) (by unfold rfF;rw [aU];(try simp only [aT,aF,aD,reduceCtorEq,bW,bP,bY,bM,aV,aE]);omega),s.ext⟩
 refine .gG<|.gG<|.yw (.pickF Z Z)<|.mv Z<|.gy (.move Z)<|.gy (.geq Z Z)<|.gy (.move Z)<|.b2 (λh13=>?_) (λh13=>?_)
 ·try simp only [dt] at h13
  refine .gy (.move Z)<|.gy (.leq Z Z)<|.gy (.pickT Z Z)<|.yw (.pickF Z Z)<|.mv Z<|.yw (.eql Z Z)<|.mv Z<|.b2 (λh20=>?_) (λh20=>?_)
  ·try simp only [dt] at h20
   refine .gG<|.gG<|.yw (.pickT Z Z)<|.mv Z<|.gG<|.gG<|.yw (.pickT Z Z)<|.a Z Z<|.az Z<|?_
   refine y7 Z (.cons (.tmp Z) (.cons (.tmp Z) .nil)) rfl λW s=>⟨EE (by unfold rfN;rw [aU];(try simp only [aT,aF,aD,reduceCtorEq,bW,bP,bY,bM,aV,aE]);omega) (by unfold rfF;rw [aU];(try simp only [aT,aF,aD,reduceCtorEq,bW,bP,bY,bM,aV,aE]);omega),s.ext⟩
  try simp only [df] at h20
  refine .gy (.move Z)<|.gy (.eql Z Z)<|.yw (.pickF Z Z)<|.mv Z<|.b2 (λh24=>?_) (λh24=>?_)
  ·try simp only [dt] at h24
   refine .gG<|.gG<|.yw (.pickT Z Z)<|.a Z Z<|.az Z<|?_
   refine y7 Z (.cons (.tmp Z) (.cons (.tmp Z) .nil)) rfl λW s=>⟨EE (by unfold rfN;rw [aU];(try simp only [aT,aF,aD,reduceCtorEq,bW,bP,bY,bM,aV,aE]);omega) (by unfold rfF;rw [aU];(try simp only [aT,aF,aD,reduceCtorEq,bW,bP,bY,bM,aV,aE]);omega),s.ext⟩
  try simp only [df] at h24
  refine .gy (.move Z)<|.gy (.eql Z Z)<|.yw (.pickF Z Z)<|.a Z Z<|.az Z<|?_
  refine y7 Z (.cons (.tmp Z) (.cons (.tmp Z) .nil)) rfl λW s=>⟨EE (by unfold rfN;rw [aU];(try simp only [aT,aF,aD,reduceCtorEq,bW,bP,bY,bM,aV,aE]);omega) (by unfold rfF;rw [aU];(try simp only [aT,aF,aD,reduceCtorEq,bW,bP,bY,bM,aV,aE]);omega),s.ext⟩
 try simp only [df] at h13
 refine .gG<|.gG<|.gy (.pickF Z Z)<|.yw (.pickF Z Z)<|.mv Z<|.yw (.eql Z Z)<|.mv Z<|.b2 (λh20=>?_) (λh20=>?_)
 ·try simp only [dt] at h20
  refine .gG<|.gG<|.yw (.pickT Z Z)<|.mv Z<|.gG<|.gG<|.yw (.pickT Z Z)<|.a Z Z<|.az Z<|?_
  refine y7 Z (.cons (.tmp Z) (.cons (.tmp Z) .nil)) rfl λW s=>⟨EE (by unfold rfN;rw [aU];(try simp only [aT,aF,aD,reduceCtorEq,bW,bP,bY,bM,aV,aE]);omega) (by unfold rfF;rw [aU];(try simp only [aT,aF,aD,reduceCtorEq,bW,bP,bY,bM,aV,aE]);omega),s.ext⟩
 try simp only [df] at h20
 refine .gy (.move Z)<|.gy (.eql Z Z)<|.yw (.pickF Z Z)<|.mv Z<|.b2 (λh24=>?_) (λh24=>?_)
 ·try simp only [dt] at h24
  refine .gG<|.gG<|.yw (.pickT Z Z)<|.a Z Z<|.az Z<|?_
  refine y7 Z (.cons (.tmp Z) (.cons (.tmp Z) .nil)) rfl λW s=>⟨EE (by unfold rfN;rw [aU];(try simp only [aT,aF,aD,reduceCtorEq,bW,bP,bY,bM,aV,aE]);omega) (by unfold rfF;rw [aU];(try simp only [aT,aF,aD,reduceCtorEq,bW,bP,bY,bM,aV,aE]);omega),s.ext⟩
 try simp only [df] at h24
 refine .gy (.move Z)<|.gy (.eql Z Z)<|.yw (.pickF Z Z)<|.a Z Z<|.az Z<|?_
 refine y7 Z (.cons (.tmp Z) (.cons (.tmp Z) .nil)) rfl λW s=>⟨EE (by unfold rfN;rw [aU];(try simp only [aT,aF,aD,reduceCtorEq,bW,bP,bY,bM,aV,aE]);omega) (by unfold rfF;rw [aU];(try simp only [aT,aF,aD,reduceCtorEq,bW,bP,bY,bM,aV,aE]);omega),s.ext⟩
def opI (k:Nat):Int:=if k<1\/18<k then -1 else if k<=7 then 0 else if (9<=k/\k<=11)\/k=15 then 2 else 1
theorem IW {a b:Int} (h:a=b):Ending.returned (.int .i64 a)=.returned (.int .i64 b):=by rw [h]
theorem PF (H:Hp) (k:Nat) (w:World) (hA:Agr H w):Calls prg 70 #[iN k] w λr w'=>r=.returned (.int .i64 (opI k))/\Ext w w':=by
 refine Sx.enter (H:=H) func70 rfl ntmps70 rfl hA ?_;refine .sr<|.aq Z<|.sq<|.bk<|.sm Z<|.yw (.lss Z Z)<|.mv Z<|.e2 (λh6=>?_) (λh6=>?_)
 ·refine .gG<|.gG<|.yw (.pickT Z Z)<|.aq Z<|.cT Z<|.sr<|.az Z<|.bR<|.tR<|?_
  refine y9 Z Z λW s=>⟨IW ?_,s.ext⟩;unfold opI
  repeat' split
  all_goals omega
 refine .gy (.move Z)<|.gy (.gtr Z Z)<|.yw (.pickF Z Z)<|.aq Z<|.ce Z (λh3=>?_) (λh3=>?_)
 ·refine .sr<|.az Z<|.bR<|.tR<|?_
  refine y9 Z Z λW s=>⟨IW ?_,s.ext⟩;unfold opI
  repeat' split
  all_goals omega
 refine .sm Z<|.yw (.leq Z Z)<|.aq Z<|.ce Z (λh10=>?_) (λh10=>?_)
 ·refine .sr<|.az Z<|.bR<|.tR<|?_
  refine y9 Z Z λW s=>⟨IW ?_,s.ext⟩;unfold opI
  repeat' split
  all_goals omega
 refine .sm Z<|.yw (.geq Z Z)<|.mv Z<|.e2 (λh16=>?_) (λh16=>?_)
 ·refine .gy (.move Z)<|.gy (.leq Z Z)<|.yw (.pickT Z Z)<|.mv Z<|.e2 (λh20=>?_) (λh20=>?_)
  ·refine .gG<|.gG<|.yw (.pickT Z Z)<|.aq Z<|.cT Z<|.sr<|.az Z<|.bR<|.tR<|?_
   refine y9 Z Z λW s=>⟨IW ?_,s.ext⟩;unfold opI
   repeat' split
   all_goals omega
  refine .gy (.move Z)<|.gy (.eql Z Z)<|.yw (.pickF Z Z)<|.aq Z<|.cd Z (λh13=>?_) (λh13=>?_)
  ·try simp only [dt] at h13
   refine .sr<|.az Z<|.bR<|.tR<|?_
   refine y9 Z Z λW s=>⟨IW ?_,s.ext⟩;unfold opI
   repeat' split
   all_goals omega
  try simp only [df] at h13
  refine .sk<|.bN<|.tN<|.sr<|.az Z<|?_
  refine y9 Z Z λW s=>⟨IW ?_,s.ext⟩;unfold opI
  repeat' split
  all_goals omega
 refine .gG<|.gG<|.yw (.pickF Z Z)<|.mv Z<|.gy (.move Z)<|.gy (.eql Z Z)<|.yw (.pickF Z Z)<|.aq Z<|.cd Z (λh13=>?_) (λh13=>?_)
 ·try simp only [dt] at h13
  refine .sr<|.az Z<|.bR<|.tR<|?_
  refine y9 Z Z λW s=>⟨IW ?_,s.ext⟩;unfold opI
  repeat' split
  all_goals omega
 try simp only [df] at h13
 refine .sk<|.bN<|.tN<|.sr<|.az Z<|?_
 refine y9 Z Z λW s=>⟨IW ?_,s.ext⟩;unfold opI
 repeat' split
 all_goals omega
theorem dY:kS prg 27=some (some 7):=by kernel_rfl
theorem QW:kS prg 149=some none:=by kernel_rfl
theorem IC:cZ prg 82=true:=by kernel_rfl
theorem MZ:cZ prg 130=true:=by kernel_rfl
theorem eZ:dZ prg 27 0=some 0:=by kernel_rfl
theorem kL:dZ prg 27 1=some 1:=by kernel_rfl
theorem kK:dZ prg 27 2=some 2:=by kernel_rfl
theorem iK:dZ prg 27 3=some 3:=by kernel_rfl
theorem hU:dZ prg 27 4=some 4:=by kernel_rfl
theorem eE:dZ prg 27 5=some 5:=by kernel_rfl
theorem OG:dZ prg 151 0=some 0:=by kernel_rfl
theorem EA:dZ prg 151 1=some 1:=by kernel_rfl
theorem yJ:dZ prg 151 2=some 2:=by kernel_rfl
theorem pS:dZ prg 151 3=some 3:=by kernel_rfl
theorem DZ:dZ prg 151 4=some 4:=by kernel_rfl
theorem DY:dZ prg 151 5=some 5:=by kernel_rfl
theorem yI:dZ prg 151 6=some 6:=by kernel_rfl
theorem DX:dZ prg 151 7=some 7:=by kernel_rfl
theorem kG:hZ prg 27=some 7:=by kernel_rfl
theorem lZ:pH prg 27=some
 [Go.Value.int Go.IntKind.i64 (Int.ofNat 0),Go.Value.string { data:={ toList:=[] } },
  Go.Value.string { data:={ toList:=[] } },Go.Value.int Go.IntKind.i64 (Int.ofNat 0),
  Go.Value.int Go.IntKind.i64 (Int.ofNat 0),Go.Value.slice none 0 0,Go.Value.slice none 0 0]:=by kernel_rfl
theorem FC (x0:Int):iG prg 27 [(0,.int .i64 x0)]=some [.int .i64 x0,.string ⟨#[]⟩,.string ⟨#[]⟩,.int .i64 0,.int .i64 0,.slice none 0 0,.slice none 0 0]:=by kernel_rfl
theorem bE6  : iG prg 83 []=some [.int .i64 0,.string ⟨#[]⟩,.int .i64 0,.slice none 0 0]:=by kernel_rfl
theorem cA1 (h:n<256):IntKind.i64.wrap (n:Int)=(Int64.ofNat n).toInt:=by
 rw [iV (by omega)];exact w64 (by omega) (by omega)
theorem bZ0 {e:Ex} (h:BT 1 e):gdE e=true:=by
 unfold gdE;rw [aK (show e.depth<=34 by have:=h.1;omega),h.2];rfl
theorem bY7 {e:Ex} (h:BT 1 e):BT 1 (prE e):=⟨by rw [aI0];exact h.1,by rw [XW];exact h.2⟩
theorem bY9 {e:Ex} (h:BT 1 e):gdE e=true:=bZ0 h
theorem cD1 {op:UInt8} {n:Int64} {e:Ex} (h:BT 1 e):gdE (.mk op [] 0 [e,.mk 1 [] n []])=true:=by
 unfold gdE;have h1:=h.1;rw [lS,uL,Ex.alls,Ex.alls,Ex.alls,h.2,qO,Ex.deeps,Ex.deeps,Ex.deeps,qO,Ex.deeps,aF,aD];exact ⟨by omega,Z⟩
def cE0 (x:Nf) (cs:List Value) (H:Hp):Prop:=∃ (op:UInt8) (nm fd:Str) (a b:Int64) (ex:List Ex) (p:Option Addr) (c:Nat),cs=[.int .i64 op.toNat,cH nm,cH fd,.int .i64 a.toInt,.int .i64 b.toInt,.slice p ex.length c,.slice none 0 0]/\Rep H (.seq 4 (ex.map (dEx .i64))) [.slice p ex.length c]/\op.toNat=x.op.toNat % 19/\nm.length<=13/\fd.length<=13/\ex.length<=4/\(∀ e∈ex,gdE e=true)/\Ex.counts ex<=800
set_option maxHeartbeats 2000000 in
theorem bH5 (H:Hp) (x:Nf) (cs:List Value) (h:Rep H (dNf x) cs) (w:World) (hA:Agr H w) :
 Calls prg 69 #[.agg cs.toArray] w λr w'=>∃ (y:List Value) (H':Hp),cE0 x y H'/\r=.returned (.agg y.toArray)/\xD H w H' w':=by
 obtain ⟨p,c,rfl,hts⟩:=aC8 h;have hcap:=hts.cap;obtain ⟨op,hop⟩:∃ op:UInt8,op.toNat=x.op.toNat % 19:=⟨UInt8.ofNat (x.op.toNat % 19),by simp [mN];omega⟩;have hct:=x.ct.toNat_lt;have hfdl:=x.fd.toNat_lt;refine Sx.enter (H:=H) func69 rfl ntmps69 rfl hA ?_;refine .sr<|.bx Z Z Z λb1=>.al lZ Z λb2=>.ns<|.fA Z OG<|.lD Z iP dC Z<|.yw (.rem Z Z (by decide) (c:=((x.op.toNat % 19:Nat):Int)) (by rw [cW (by omega)];omega))<|.yw (.conv Z lJ lT (c:=((op.toNat:Nat):Int)) ((w6 (by omega)).trans (by rw [hop])))<|.yw (.build Z (FC _))<|.al lZ Z λb3=>.sX .head Z Z kG Z<|.ns<|.fA Z eZ<|.lD Z cC Hm Z<|.yw (.call IC Z (λW s=>EM H op.toNat W s.agr))<|.mv Z<|.yw (.extract Z Z)<|.yw (.extract Z Z)<|.a Z Z<|.aq Z<|.cu (X:=Str) [(1,_),(2,_),(3,_),(5,_)] ⟨Z,Z,Z,Z,Jt⟩ (λnm=>[]) (λnm=>H) (λnm=>[.box b3 [.int .i64 op.toNat,cH nm,cH [],.int .i64 ((0:Int64)).toInt,.int .i64 ((0:Int64)).toInt,.slice none 0 0,.slice none 0 0] 27,.box b2 [.int .i64 0,.string ⟨#[]⟩,.string ⟨#[]⟩,.int .i64 0,.int .i64 0,.slice none 0 0,.slice none 0 0] 27,.box b1 [.int .u8 x.op.toNat,.int .u8 x.nm.toNat,.int .u8 x.fd.toNat,.int .u8 x.ct.toNat,.bool x.odd,.int .i64 x.a.toInt,.int .i64 x.b.toInt,.slice p x.ts.length c] 151]) (λnm=>nm.length<=13) ?_ λnm hC=>?_
 ·
  refine .sm Z<|.nt<|.cd Z (λh19=>?_) (λh19=>?_)
  ·exact .rg<|.fA Z EA<|.lD Z iP nL Z<|.yw (.call jV Z (λW s=>mC _ x.nm W s.agr))<|.fA Z kL<|.st .head Z Z fQ Z (nb Z) Z<|.nt<|.me (nU x.nm) trivial ⟨Z,Z,Z,Z,Jt⟩ (λ_ s=>s) (eK _)
  exact .sk<|.tN<|.me [] trivial ⟨Z,Z,Z,Z,Jt⟩ (λ_ s=>s) (by decide)
 have hnm:=hC;refine .cu (X:=Str) [(1,_),(2,_),(3,_)] ⟨Z,Z,Z,Jt⟩ (λfd=>[]) (λfd=>H) (λfd=>[.box b3 [.int .i64 op.toNat,cH nm,cH fd,.int .i64 ((0:Int64)).toInt,.int .i64 ((0:Int64)).toInt,.slice none 0 0,.slice none 0 0] 27,.box b2 [.int .i64 0,.string ⟨#[]⟩,.string ⟨#[]⟩,.int .i64 0,.int .i64 0,.slice none 0 0,.slice none 0 0] 27,.box b1 [.int .u8 x.op.toNat,.int .u8 x.nm.toNat,.int .u8 x.fd.toNat,.int .u8 x.ct.toNat,.bool x.odd,.int .i64 x.a.toInt,.int .i64 x.b.toInt,.slice p x.ts.length c] 151]) (λfd=>fd.length<=13) ?_ λfd hC=>?_
 ·
  refine .sm Z<|.nt<|.cd Z (λh24=>?_) (λh24=>?_)
  ·exact .rg<|.fA Z yJ<|.lD Z iP nL Z<|.yw (.call jV Z (λW s=>mC _ x.fd W s.agr))<|.fA Z kK<|.st .head Z Z fQ Z (nb Z) Z<|.nt<|.me (nU x.fd) trivial ⟨Z,Z,Z,Jt⟩ (λ_ s=>s) (eK _)
  exact .sk<|.tN<|.me [] trivial ⟨Z,Z,Z,Jt⟩ (λ_ s=>s) (by decide)
 have hfd:=hC;refine .cu (X:=Int64 × Int64) [(1,_),(2,_),(3,_)] ⟨Z,Z,Z,Jt⟩ (λab=>[]) (λab=>H) (λab=>[.box b3 [.int .i64 op.toNat,cH nm,cH fd,.int .i64 ((ab.1:Int64)).toInt,.int .i64 ((ab.2:Int64)).toInt,.slice none 0 0,.slice none 0 0] 27,.box b2 [.int .i64 0,.string ⟨#[]⟩,.string ⟨#[]⟩,.int .i64 0,.int .i64 0,.slice none 0 0,.slice none 0 0] 27,.box b1 [.int .u8 x.op.toNat,.int .u8 x.nm.toNat,.int .u8 x.fd.toNat,.int .u8 x.ct.toNat,.bool x.odd,.int .i64 x.a.toInt,.int .i64 x.b.toInt,.slice p x.ts.length c] 151]) (λab=>True) ?_ λab hC=>?_
 ·
  refine .sr<|.fA Z eZ<|.lD Z cC Hm Z<|.yw (.geq Z Z)<|.mv Z<|.e2 (λh32=>?_) (λh32=>?_)
  ·refine .gy (.fieldAddr Z eZ)<|.gy (.load Z cC Hm Z)<|.gy (.neq Z Z)<|.yw (.pickT Z Z)<|.nt<|.ce Z (λh36=>?_) (λh36=>?_)
   ·exact .fL 7 [(0,0),(1,0),(2,0),(3,0),(4,0),(5,3),(6,0)]<|.fA Z DY<|.lD Z cC nL Z<|.fA Z yI<|.lD Z cC nL Z<|.fA Z iK<|.st .head Z Z iH Z Z Z ((.dn<|.yv (.load Z cC nL Z)<|.yv (.fieldAddr Z yI)<|.d2<|.nl))<|.fA Z hU<|.fn (tl:=[_]) Z<|.st .head Z Z iH Z (nb Z) Z<|.nt<|.me (x.a,x.b) trivial ⟨Z,Z,Z,Jt⟩ (λ_ s=>s) trivial
   exact .sk<|.tN<|.me (0,0) trivial ⟨Z,Z,Z,Jt⟩ (λ_ s=>s) trivial
  exact .gG<|.gG<|.gG<|.yw (.pickF Z Z)<|.nt<|.cF Z<|.sk<|.tN<|.me (0,0) trivial ⟨Z,Z,Z,Jt⟩ (λ_ s=>s) trivial
 obtain ⟨a,b⟩:=ab;dsimp only;refine .sr<|.fA Z DX<|.lD Z QW nL Z<|.ct (X:=List Value) MZ Z (λW s=>MN H x.ts _ hts W s.agr) Z λx1 H1 hx1 u1=>?_
 obtain ⟨e0,rx,hg0,h13,hcn⟩:=hx1;obtain ⟨op1,nm1,n1,xW,rfl⟩:=PO e0;obtain ⟨p1,c1,rfl,hs1,_⟩:=fX rx;refine .ct (X:=List Value) NA Z (λW s=>aI2 _ h13 hg0.2 H1 _ W rx s.agr) Z λx2 H2 hx2 u2=>?_;have hg2:=bY7 hg0;have hcn2:=aI1 (.mk op1 nm1 n1 xW);obtain ⟨op2,nm2,n2,qC,hx⟩:=PO (prE (.mk op1 nm1 n1 xW));rw [hx] at hx2 hg2 hcn2;obtain ⟨p2,c2,rfl,hs2,hnm2⟩:=fX hx2;refine .al iM Z λb6=>.sX .head Z Z gP Z<|.nt<|.cu (X:=Hp × Value × List Ex × List Value) [(1,_),(2,_),(3,_)] ⟨Z,Z,Z,Jt⟩ (λz=>[]) (λz=>z.1) (λz=>[.row 83 4 z.2.1 z.2.2.1.length z.2.2.2,.box b3 [.int .i64 op.toNat,cH nm,cH fd,.int .i64 ((a:Int64)).toInt,.int .i64 ((b:Int64)).toInt,z.2.1,.slice none 0 0] 27,.box b2 [.int .i64 0,.string ⟨#[]⟩,.string ⟨#[]⟩,.int .i64 0,.int .i64 0,.slice none 0 0,.slice none 0 0] 27,.box b1 [.int .u8 x.op.toNat,.int .u8 x.nm.toNat,.int .u8 x.fd.toNat,.int .u8 x.ct.toNat,.bool x.odd,.int .i64 x.a.toInt,.int .i64 x.b.toInt,.slice p x.ts.length c] 151]) (λz=>HUp w H z.1/\eR z.1 4 (z.2.2.1.map (dEx .i64)) z.2.2.2/\z.2.2.1.length<=3/\(∀ e∈z.2.2.1,gdE e=true)/\Ex.counts z.2.2.1<=600) ?_ λz hC=>?_
 ·
  refine .sq<|?_
  refine Sx.row0 83 4 ?_;refine .rg<|.fA Z eZ<|.lD Z cC nL Z<|.nt<|.bk<|.sr<|.yw (.eql Z Z)<|.aq Z<|.ce Z (λh49=>?_) (λh49=>?_)
  ·refine .rg<|.fA Z pS<|.lD Z iP vT Z<|.yw (.rem Z Z (by decide) (c:=((x.ct.toNat % 6:Nat):Int)) (by rw [cW (by omega)];omega))<|.yw (.conv Z lJ lT (c:=((x.ct.toNat % 6:Nat):Int)) (w6 (by omega)))<|.yw (.add Z Z (c:=(((UInt8.ofNat (16+x.ct.toNat % 6)).toNat:Nat):Int)) (by rw [eW (by show 16+x.ct.toNat % 6<256;omega)];exact (w6 (by omega)).trans (by omega)))<|.yw (.loadW Z dH dC Z)<|.fA Z yJ<|.lD Z iP vT Z<|.yw (.conv Z lJ TF (c:=(Int64.ofNat (x.fd.toNat)).toInt) (cA1 (by omega)))<|.yw (.build Z (AP _ _))<|.bl Z (ZV _ _ _ _ _ _ _ _) Z λb61=>?_
   refine Sx.freezeBoxN λH3 u3 m3=>?_;exact .yw (.build Z (TI _ _ _ _))<|.blR (z:=4) Z (sN _ _ _ _) Z Z (by simp [maxLen]) λb63=>.fA Z eE<|.st qF Z Z uQ Z (nb Z) Z<|.nl<|.bN<|.tN<|.me (H3,.slice (some ⟨b63,0,none⟩) 1 1,[(Ex.mk (UInt8.ofNat (16+x.ct.toNat % 6)) [] 0 [(Ex.mk op2 nm2 n2 qC),.mk 1 [] (Int64.ofNat x.fd.toNat) []])],[.int .i64 (UInt8.ofNat (16+x.ct.toNat % 6)).toNat,.string ⟨#[]⟩,.int .i64 0,.slice (some ⟨b61,0,none⟩) 2 2]) trivial ⟨Z,Z,Z,Jt⟩ (λ_ s=>s.pick [0,3,4,5] [_,_,_,_] Z Z) ⟨(u1.trans u2).trans u3,eR.single (rC (by decide) (Rep.mk (n:=2) (c:=2) (ds:=[dEx .i64 (Ex.mk op2 nm2 n2 qC),dEx .i64 (.mk 1 [] (Int64.ofNat x.fd.toNat) [])]) m3 (eR.app (eR.single (rC hnm2 (hs2.up u3.up)) Z) (eR.single (rC (by decide) (Rep.empty (by decide))) Z)) Z (bK _) (by decide))) Z,(by decide:1<=3),λe he=>by rw [cI.1 he];exact cD1 hg2,by dsimp only;simp only [Ex.counts,kC] at hcn2 hcn|-;omega⟩
  refine .sr<|.yw (.eql Z Z)<|.aq Z<|.ce Z (λh65=>?_) (λh65=>?_)
  ·exact .rg<|.yw (.loadW Z dH dC Z)<|.blR (z:=4) Z (sN _ _ _ _) Z Z (by simp [maxLen]) λb68=>.fA Z eE<|.st qF Z Z uQ Z (nb Z) Z<|.nl<|.bN<|.tN<|.me (H2,.slice (some ⟨b68,0,none⟩) 1 1,[(Ex.mk op2 nm2 n2 qC)],[.int .i64 op2.toNat,cH nm2,.int .i64 n2.toInt,.slice p2 qC.length c2]) trivial ⟨Z,Z,Z,Jt⟩ (λ_ s=>s.pick [0,3,4,5] [_,_,_,_] Z Z) ⟨u1.trans u2,eR.single (rC hnm2 hs2) Z,(by decide:1<=3),λe he=>by rw [cI.1 he];exact bY9 hg2,by dsimp only;simp only [Ex.counts];omega⟩
  refine .sr<|.yw (.eql Z Z)<|.aq Z<|.ce Z (λh70=>?_) (λh70=>?_)
  ·refine .sr<|.aq Z<|.bk<|.pm [1,0,2,3,4] [_,_,_,_,_] Z Z<|.lp (X:=Nat × Value × List Ex × List Value × Ex × Option Addr × Nat) [(1,_),(2,_),(3,_),(6,_)] ⟨Z,Z,Z,Z,Jt⟩ [_,_] (λz=>[(7,iN z.1)]) (λz=>H2) (λz=>[.box b6 [.int .i64 (z.2.2.2.2.1.op).toNat,cH z.2.2.2.2.1.nm,.int .i64 (z.2.2.2.2.1.n).toInt,.slice z.2.2.2.2.2.1 z.2.2.2.2.1.args.length z.2.2.2.2.2.2] 83,.row 83 4 z.2.1 z.1 z.2.2.2.1,.box b3 [.int .i64 op.toNat,cH nm,cH fd,.int .i64 ((a:Int64)).toInt,.int .i64 ((b:Int64)).toInt,z.2.1,.slice none 0 0] 27]) (λz=>(z.1<=x.ct.toNat % 4/\z.2.2.1.length=z.1)/\eR H2 4 (z.2.2.1.map (dEx .i64)) z.2.2.2.1/\(∀ e∈z.2.2.1,gdE e=true)/\Ex.counts z.2.2.1<=181 * z.1/\Rep H2 (dEx .i64 z.2.2.2.2.1) [.int .i64 (z.2.2.2.2.1.op).toNat,cH z.2.2.2.2.1.nm,.int .i64 (z.2.2.2.2.1.n).toInt,.slice z.2.2.2.2.2.1 z.2.2.2.2.1.args.length z.2.2.2.2.2.2]/\gdE z.2.2.2.2.1=true/\z.2.2.2.2.1.count<=181) (λz=>x.ct.toNat % 4 - z.1) (0,.slice none 0 0,[],[],(Ex.mk op2 nm2 n2 qC),p2,c2) (λ_ s=>s) ⟨Z,Jt⟩ ⟨⟨aR _,Z⟩,eR.nil,λe he=>(by cases he),by rw [Ex.counts];exact aR _,hx2,bY9 hg2,by dsimp only;omega⟩ λz hC=>?_
   obtain ⟨k,r,ex,xs,te,tp,tc⟩:=z;obtain ⟨⟨hk0,hkl⟩,hz,hge,hxc,rt,gt,ct⟩:=hC;dsimp only at hk0 hkl hz hge hxc rt gt ct|-;obtain ⟨top,tnm,tn,targs,rfl⟩:=PO te;dsimp only [Ex.op,Ex.nm,Ex.n,Ex.args] at rt|-;refine .sq<|.sm Z<|.fA Z pS<|.lD Z iP vT Z<|.yw (.rem Z Z (by decide) (c:=((x.ct.toNat % 4:Nat):Int)) (by rw [cW (by omega)];omega))<|.yw (.conv Z lJ lT (c:=((x.ct.toNat % 4:Nat):Int)) (w6 (by omega)))<|.yw (.lss Z Z)<|.nt<|.ce Z (λh77=>?_) (λh77=>?_)
   ·have hk:k<x.ct.toNat % 4:=by omega
    refine .sk<|.tN<|.sq<|.bk<|.sr<|.fA Z eE<|.lD Z eQ nL Z<|.yw (.loadW Z dH Hm Z)<|.bl Z (sN _ _ _ _) Z λb83=>.ap (news:=[.int .i64 top.toNat,cH tnm,.int .i64 tn.toInt,.slice tp targs.length tc]) GR Z (λ_=>oV) Z (.box Hm z0) Z (by simp [Value.oneCell',cH]) (by simp [maxLen];omega) (by omega) Z λr84 _=>?_
    refine At.ra nL λp84 c84 e84=>?_;subst e84;exact .fA Z eE<|.st qF Z Z uQ Z (nb Z) Z<|.nt<|.rg<|.yw (.build Z bE6)<|.sX mD Z Z gP Z<|.nl<|.bN<|.tN<|.rg<|.mv Z<|.yw (.add Z Z w7)<|.aq Z<|.ag (x:=(k,r,ex,xs,.mk top tnm tn targs,tp,tc)) (k+1,.slice p84 (k+1) c84,ex++[Ex.mk top tnm tn targs],xs++[.int .i64 top.toNat,cH tnm,.int .i64 tn.toInt,.slice tp targs.length tc],Ex.mk 0 [] 0 [],none,0) ⟨Z,Jt⟩ ⟨Z,Z,Z,Z,Jt⟩ (λ_ s=>(s.pick [1,2,3,4,5] _ Z Z)) ⟨⟨by dsimp only;omega,by dsimp only;rw [aH];simp only [aI,aL];omega⟩,by dsimp only;rw [cL];exact hz.snoc rt Z,λe he=>by rcases cV.1 he with h | h;exact hge e h;rw [cI.1 h];exact gt,by dsimp only;rw [lU,Ex.counts,Ex.counts];omega,rC (by decide) (Rep.empty (aR _)),Z,by dsimp only;simp only [Ex.counts,kC];omega⟩ (by dsimp only;omega)
   have hke:k=x.ct.toNat % 4:=by omega
   subst hkl;refine At.ra (.tail _ Hm) λp84 c84 e84=>?_;subst e84;have hkl3:ex.length<=3:=by omega
   exact .ex<|.tE<|.tE<|.bE<|.bN<|.tN<|.me (H2,.slice p84 ex.length c84,ex,xs) trivial ⟨Z,Z,Z,Jt⟩ (λ_ s=>s.pick [1,2,3,4] [_,_,_,_] Z Z) ⟨u1.trans u2,hz,hkl3,hge,(show Ex.counts ex<=600 by omega)⟩
  refine .sr<|.yw (.eql Z Z)<|.aq Z<|.ce Z (λh87=>?_) (λh87=>?_)
  ·exact .rg<|.fA Z pS<|.lD Z iP vT Z<|.yw (.rem Z Z (by decide) (c:=((x.ct.toNat % 40:Nat):Int)) (by rw [cW (by omega)];omega))<|.yw (.conv Z lJ TF (c:=(Int64.ofNat (x.ct.toNat % 40)).toInt) (cA1 (by omega)))<|.yw (.build Z (AP _ _))<|.blR (z:=4) Z (sN _ _ _ _) Z Z (by simp [maxLen]) λb94=>.fA Z eE<|.st qF Z Z uQ Z (nb Z) Z<|.nl<|.bN<|.tN<|.me (H2,.slice (some ⟨b94,0,none⟩) 1 1,[(Ex.mk 1 [] (Int64.ofNat (x.ct.toNat % 40)) [])],[.int .i64 1,.string ⟨#[]⟩,.int .i64 (Int64.ofNat (x.ct.toNat % 40)).toInt,.slice none 0 0]) trivial ⟨Z,Z,Z,Jt⟩ (λ_ s=>s.pick [0,3,4,5] [_,_,_,_] Z Z) ⟨u1.trans u2,eR.single (rC (by decide) (Rep.empty (by decide))) Z,(by decide:1<=3),λe he=>by rw [cI.1 he];rfl,by dsimp only;simp only [Ex.counts,kC];omega⟩
  exact .sk<|.bN<|.tN<|.me (H2,.slice none 0 0,[],[]) trivial ⟨Z,Z,Z,Jt⟩ (λ_ s=>s.pick [0,2,3,4] [_,_,_,_] Z Z) ⟨u1.trans u2,eR.nil,aR _,λe he=>(by cases he),by rw [Ex.counts];omega⟩
 obtain ⟨H3,r,ex,xs⟩:=z;obtain ⟨u3,hz,hxl,hge,hxc⟩:=hC;dsimp only at u3 hz hxl hge hxc|-;refine At.ra Hm λpr cr er=>?_;subst er;have hts3:=hts.up u3.up;refine .cu (X:=Str × Str × Int64 × Int64 × Hp × Value × List Ex × List Value) [(2,_),(3,_)] ⟨Z,Z,Jt⟩ (λz=>[]) (λz=>z.2.2.2.2.1) (λz=>[.row 83 4 z.2.2.2.2.2.1 z.2.2.2.2.2.2.1.length z.2.2.2.2.2.2.2,.box b3 [.int .i64 op.toNat,cH z.1,cH z.2.1,.int .i64 ((z.2.2.1:Int64)).toInt,.int .i64 ((z.2.2.2.1:Int64)).toInt,z.2.2.2.2.2.1,.slice none 0 0] 27,.box b2 [.int .i64 0,.string ⟨#[]⟩,.string ⟨#[]⟩,.int .i64 0,.int .i64 0,.slice none 0 0,.slice none 0 0] 27,.box b1 [.int .u8 x.op.toNat,.int .u8 x.nm.toNat,.int .u8 x.fd.toNat,.int .u8 x.ct.toNat,.bool x.odd,.int .i64 x.a.toInt,.int .i64 x.b.toInt,.slice p x.ts.length c] 151]) (λz=>(z.1.length<=13/\z.2.1.length<=13)/\HUp w H z.2.2.2.2.1/\eR z.2.2.2.2.1 4 (z.2.2.2.2.2.2.1.map (dEx .i64)) z.2.2.2.2.2.2.2/\z.2.2.2.2.2.2.1.length<=4/\(∀ e∈z.2.2.2.2.2.2.1,gdE e=true)/\Ex.counts z.2.2.2.2.2.2.1<=800) ?_ λz hC=>?_
 ·
  refine .sr<|.fA Z DZ<|.lD Z jO rY Z<|.nt<|.cd Z (λh97=>?_) (λh97=>?_)
  ·try simp only [dt] at h97
   refine .sr<|.fA Z pS<|.lD Z iP rY Z<|.yw (.rem Z Z (by decide) (c:=((x.ct.toNat % 6:Nat):Int)) (by rw [cW (by omega)];omega))<|.nt<|.bk<|.sr<|.yw (.eql Z Z)<|.aq Z<|.ce Z (λh101=>?_) (λh101=>?_)
   ·exact .rg<|.fA Z EA<|.lD Z iP rY Z<|.yw (.call jV Z (λW s=>mC _ x.nm W s.agr))<|.fA Z kL<|.st mD Z Z fQ Z (nb Z) Z<|.nl<|.bN<|.tN<|.me ((nU x.nm),fd,a,b,H3,.slice pr ex.length cr,ex,xs) trivial ⟨Z,Z,Jt⟩ (λ_ s=>s) ⟨⟨by first | exact hnm | exact eK _,by first | exact hfd | exact eK _⟩,u3,hz,(show ex.length<=4 by omega),hge,(show Ex.counts ex<=800 by omega)⟩
   refine .sr<|.yw (.eql Z Z)<|.aq Z<|.ce Z (λh107=>?_) (λh107=>?_)
   ·exact .rg<|.fA Z yJ<|.lD Z iP rY Z<|.yw (.call jV Z (λW s=>mC _ x.fd W s.agr))<|.fA Z kK<|.st mD Z Z fQ Z (nb Z) Z<|.nl<|.bN<|.tN<|.me (nm,(nU x.fd),a,b,H3,.slice pr ex.length cr,ex,xs) trivial ⟨Z,Z,Jt⟩ (λ_ s=>s) ⟨⟨by first | exact hnm | exact eK _,by first | exact hfd | exact eK _⟩,u3,hz,(show ex.length<=4 by omega),hge,(show Ex.counts ex<=800 by omega)⟩
   refine .sr<|.yw (.eql Z Z)<|.aq Z<|.ce Z (λh113=>?_) (λh113=>?_)
   ·refine .fL 6 [(0,0),(1,0),(2,0),(3,0),(4,1),(5,1)]<|.fA Z eE<|.lD Z eQ dC Z<|.fA Z DX<|.lD Z QW rY Z<|.ct (X:=List Value) MZ Z (λW s=>MN H3 x.ts _ hts3 W s.agr) Z λx9 H4 hx9 u4=>?_
    obtain ⟨e9,rx9,hg9,_,hcn9⟩:=hx9;obtain ⟨op9,nm9,n9,args9,rfl⟩:=PO e9;obtain ⟨p9,c9,rfl,hs9,_⟩:=fX rx9;refine .bl Z (sN _ _ _ _) Z λb120=>.fn (tl:=[_,_,_]) Z<|.ap (news:=[.int .i64 op9.toNat,cH nm9,.int .i64 n9.toInt,.slice p9 args9.length c9]) GR Z (λ_=>mD) Z (.box Hm z0) Z (by simp [Value.oneCell',cH]) (by simp [maxLen];omega) (by omega) Z λr121 _=>?_
    rw [show ex.length+1=(ex++[Ex.mk op9 nm9 n9 args9]).length by simp];refine At.ra dC λp121 c121 e121=>?_;subst e121;exact .fA Z eE<|.st oV Z Z uQ Z (nb Z) Z<|.nl<|.bN<|.tN<|.me (nm,fd,a,b,H4,.slice p121 (ex++[Ex.mk op9 nm9 n9 args9]).length c121,ex++[Ex.mk op9 nm9 n9 args9],xs++[.int .i64 op9.toNat,cH nm9,.int .i64 n9.toInt,.slice p9 args9.length c9]) trivial ⟨Z,Z,Jt⟩ (λ_ s=>s.pick [1,2,3,4] [_,_,_,_] Z Z) ⟨⟨hnm,hfd⟩,u3.trans u4,by dsimp only;rw [cL];exact (hz.up u4.up).snoc rx9 Z,by dsimp only;rw [aH];simp only [aI,aL];omega,λe he=>by rcases cV.1 he with h | h;exact hge e h;rw [cI.1 h];exact bZ0 hg9,by dsimp only;rw [lU,Ex.counts,Ex.counts];omega⟩
   refine .sr<|.yw (.eql Z Z)<|.aq Z<|.ce Z (λh123=>?_) (λh123=>?_)
   ·exact .rg<|.fA Z DY<|.lD Z cC rY Z<|.fA Z iK<|.st mD Z Z iH Z (nb Z) Z<|.nl<|.bN<|.tN<|.me (nm,fd,x.a,b,H3,.slice pr ex.length cr,ex,xs) trivial ⟨Z,Z,Jt⟩ (λ_ s=>s) ⟨⟨by first | exact hnm | exact eK _,by first | exact hfd | exact eK _⟩,u3,hz,(show ex.length<=4 by omega),hge,(show Ex.counts ex<=800 by omega)⟩
   refine .sr<|.yw (.eql Z Z)<|.aq Z<|.ce Z (λh128=>?_) (λh128=>?_)
   ·exact .rg<|.fA Z yI<|.lD Z cC rY Z<|.fA Z hU<|.st mD Z Z iH Z (nb Z) Z<|.nl<|.bN<|.tN<|.me (nm,fd,a,x.b,H3,.slice pr ex.length cr,ex,xs) trivial ⟨Z,Z,Jt⟩ (λ_ s=>s) ⟨⟨by first | exact hnm | exact eK _,by first | exact hfd | exact eK _⟩,u3,hz,(show ex.length<=4 by omega),hge,(show Ex.counts ex<=800 by omega)⟩
   exact .sk<|.bN<|.tN<|.me (nm,fd,a,b,H3,.slice pr ex.length cr,ex,xs) trivial ⟨Z,Z,Jt⟩ (λ_ s=>s) ⟨⟨by first | exact hnm | exact eK _,by first | exact hfd | exact eK _⟩,u3,hz,(show ex.length<=4 by omega),hge,(show Ex.counts ex<=800 by omega)⟩
  try simp only [df] at h97
  exact .sk<|.tN<|.me (nm,fd,a,b,H3,.slice pr ex.length cr,ex,xs) trivial ⟨Z,Z,Jt⟩ (λ_ s=>s) ⟨⟨by first | exact hnm | exact eK _,by first | exact hfd | exact eK _⟩,u3,hz,(show ex.length<=4 by omega),hge,(show Ex.counts ex<=800 by omega)⟩
 obtain ⟨nm,fd,a,b,H5,r,ex,xs⟩:=z;obtain ⟨⟨hnm,hfd⟩,u5,hz,hxl,hge,hxc⟩:=hC;dsimp only at hnm hfd u5 hz hxl hge hxc|-;refine At.ra Hm λp5 c5 e5=>?_;subst e5;refine .sr<|.yw (.loadW Z dY dC Z)<|.sX oV Z Z kG Z<|.nt<|.rt<|?_
 refine At.pm [0,2] [_,_] rfl rfl ?_;refine lY (ds:=ex.map (dEx .i64)) (bJ ..) hz λH6 p6 c6 u6 hr6 hs6=>?_;refine y8 Z (.cell Z dY Hm rfl) λW s=>⟨_,H6,⟨op,nm,fd,a,b,ex,p5,c5,Z,hs6,hop,hnm,hfd,hxl,hge,hxc⟩,Z,(u5.trans u6).grow s⟩
theorem oL:kS prg 25=some none:=by kernel_rfl
theorem QV:kS prg 151=some (some 8):=by kernel_rfl
theorem QR:cZ prg 33=true:=by kernel_rfl
theorem aN7:cZ prg 69=true:=by kernel_rfl
theorem QJ:cZ prg 70=true:=by kernel_rfl
theorem iJ:dZ prg 27 6=some 6:=by kernel_rfl
theorem bE5:yR prg 25=some (27,7,104):=by kernel_rfl
theorem aM8:hZ prg 25=some 1:=by kernel_rfl
theorem ZC:hZ prg 151=some 8:=by kernel_rfl
theorem GQ:slN prg 22=some 8:=by kernel_rfl
theorem ZA:pH prg 151=some
 [Go.Value.int Go.IntKind.u8 (Int.ofNat 0),Go.Value.int Go.IntKind.u8 (Int.ofNat 0),
  Go.Value.int Go.IntKind.u8 (Int.ofNat 0),Go.Value.int Go.IntKind.u8 (Int.ofNat 0),Go.Value.bool false,
  Go.Value.int Go.IntKind.i64 (Int.ofNat 0),Go.Value.int Go.IntKind.i64 (Int.ofNat 0),
  Go.Value.slice none 0 0]:=by kernel_rfl
theorem ZU (x00 x01 x02 x03 x04 x05 x06:Value):wH prg 25 1 [(0,.agg [x00,x01,x02,x03,x04,x05,x06].toArray)]=some (27,[x00,x01,x02,x03,x04,x05,x06]):=by kernel_rfl
theorem cB0 (h:n<256):IntKind.u8.wrap (n:Int)=(n:Int):=by
 have key:∀ i∈List.range 256,IntKind.u8.wrap (i:Int)=(i:Int):=by decide +kernel
 exact key n (cD.2 h)
theorem aC7 (k:Nat):-1<=opI k/\opI k<=2:=by unfold opI;split <;> (try split) <;> (try split) <;> omega
theorem WJ:∀ (f d:Nat),d+f=13->∀ (H:Hp) (l:List Nf) (v:Value) (w:World),Rep H (.seq 8 (l.map dNf)) [v]->Agr H w ->
 Calls prg 33 #[v,iN d] w λr w'=>∃ (y:List Value × Value) (H':Hp),(∃ (g:Fm) (rest:List Nf),Rep H' (dFm .i64 g) y.1/\gdF g=true/\g.count+1010 * rest.length<=1010 * l.length+1/\Rep H' (.seq 8 (rest.map dNf)) [y.2])/\r=.returned (.tuple #[.agg y.1.toArray,y.2])/\xD H w H' w':=by
 intro f;induction f using Nat.strongRecOn with
 | _ f ih =>
  intro d hd H l v w h hA;obtain ⟨p,c,e,_⟩:=h.sl;simp only [gD,qV] at e;subst e;obtain ⟨n,hn⟩:∃ n,n=(l.map dNf).length:=⟨_,Z⟩;rw [<-hn] at h|-;have hnl:n=l.length:=by simpa using hn
  have hcap:=h.cap;refine Sx.enter (H:=H) func33 rfl ntmps33 rfl hA ?_;refine .sr<|.al lZ Z λb4=>.aq Z<|.sq<|.sm Z<|.yw (.lenSl GQ Z)<|.yw (.eql Z Z)<|.mv Z<|.e2 (λh15=>?_) (λh15=>?_)
  ·refine .gG<|.gG<|.yw (.pickT Z Z)<|.nt<|.cT Z<|.sr<|.yw (.build Z (FC _))<|.mv Z<|.sW .head Z Z kG (by simp [Value.oneCell',cH,cNf]) Z<|.az Z<|.tR<|?_
   exact y7 Z (.cons (.cell Z dY Hm rfl) (.cons (.tmp Z) .nil)) rfl λW s=>⟨(_,_),H,⟨.mk 1 [] [] 0 0 [] [],l,CP (k:=.i64) (by decide) (by decide) (Rep.empty (by decide)) (Rep.empty (by decide)),Z,(by simp only [Fm.count,Ex.counts,Fm.counts];omega),h⟩,Z,.pure hA s.ext⟩
  refine .gy (.move Z)<|.gy (.gtr Z Z)<|.yw (.pickF Z Z)<|.nt<|.ce Z (λh18=>?_) (λh18=>?_)
  ·refine .sr<|.yw (.build Z (FC _))<|.mv Z<|.sW .head Z Z kG (by simp [Value.oneCell',cH,cNf]) Z<|.az Z<|.tR<|?_
   exact y7 Z (.cons (.cell Z dY Hm rfl) (.cons (.tmp Z) .nil)) rfl λW s=>⟨(_,_),H,⟨.mk 1 [] [] 0 0 [] [],l,CP (k:=.i64) (by decide) (by decide) (Rep.empty (by decide)) (Rep.empty (by decide)),Z,(by simp only [Fm.count,Ex.counts,Fm.counts];omega),h⟩,Z,.pure hA s.ext⟩
  have hn0:0<n:=by omega
  obtain ⟨bE,oE,cE,hpE,rE,lE,mE⟩:=h.elem (fW (f:=dNf) (show 0<l.length by omega));subst hpE;generalize hx:l[0]=x at rE;obtain ⟨pN,cN,rfl,hsN⟩:=aC8 rE;have hct:=x.ct.toNat_lt;refine .sk<|.tN<|.sm Z<|.yw (.indexSl GQ Z Z (i:=0) Z (by omega) (q:=oE+0 * 8) (by omega))<|.yw (.loadMW Z QV mE Z)<|.al ZA Z λb6=>.sW .head Z Z ZC (by simp [Value.oneCell',cH,cNf]) Z<|.ns<|.mv Z<|.yw (.cutLo GQ Z Z (lo:=1) Z (by omega) h.len.2.1)<|.a Z Z<|.ns<|.yw (.loadW Z QV Hm Z)<|.ct (X:=List Value) aN7 Z (λW s=>bH5 H x _ rE W s.agr) Z λy27 H0 hy27 u0=>?_
  obtain ⟨op,nm,fd,a,b,ex,pX,cX,rfl,hsX,hop,hnm,hfd,hexl,hge,hexc⟩:=hy27;obtain ⟨m0,hm0,hm2⟩:∃ m0:Nat,max (opI op.toNat) 0=(m0:Int)/\m0<=2:=⟨(max (opI op.toNat) 0).toNat,by have:=aC7 op.toNat;omega,by have:=aC7 op.toNat;omega⟩;refine .al lZ Z λb7=>.sW .head Z Z kG (by simp [Value.oneCell',cH,cNf]) Z<|.ns<|.fA Z eZ<|.lD Z cC Hm Z<|.yw (.call QJ Z (λW s=>PF _ op.toNat W s.agr))<|.yw (.max2 Z Z (c:=((m0:Nat):Int)) hm0)<|.aq Z<|.cu (X:=Nat) [(0,_),(1,_),(4,_),(7,_)] ⟨Z,Z,Z,Z,Jt⟩ (λm=>[(8,iN m)]) (λm=>H0) (λm=>[.box b7 [.int .i64 op.toNat,cH nm,cH fd,.int .i64 a.toInt,.int .i64 b.toInt,.slice pX ex.length cX,.slice none 0 0] 27,.box b6 [.int .u8 x.op.toNat,.int .u8 x.nm.toNat,.int .u8 x.fd.toNat,.int .u8 x.ct.toNat,.bool x.odd,.int .i64 x.a.toInt,.int .i64 x.b.toInt,.slice pN x.ts.length cN] 151,.box b4 [.int .i64 0,.string ⟨#[]⟩,.string ⟨#[]⟩,.int .i64 0,.int .i64 0,.slice none 0 0,.slice none 0 0] 27]) (λm=>m<=3) ?_ λm hC=>?_
  ·
   refine .sr<|.fA Z DZ<|.lD Z jO dC Z<|.mv Z<|.b2 (λh34=>?_) (λh34=>?_)
   ·try simp only [dt] at h34
    refine .gy (.fieldAddr Z pS)<|.gy (.load Z iP dC Z)<|.gy (.rem Z Z (by decide) (c:=((x.ct.toNat % 6:Nat):Int)) (by rw [cW (by omega)];omega))<|.gy (.eql Z Z)<|.yw (.pickT Z Z)<|.nt<|.ce Z (λh39=>?_) (λh39=>?_)
    ·exact .rg<|.fA Z pS<|.lD Z iP dC Z<|.yw (.quo Z Z (by decide) (c:=((x.ct.toNat / 6:Nat):Int)) (by rw [jH (by omega),show ((x.ct.toNat:Nat):Int) / 6=((x.ct.toNat / 6:Nat):Int) by omega];exact cB0 (by omega)))<|.yw (.conv Z lJ lT (c:=((x.ct.toNat / 6:Nat):Int)) (w6 (by omega)))<|.yw (.rem Z Z (by decide) (c:=((x.ct.toNat / 6 % 4:Nat):Int)) (by rw [cW (by omega)];omega))<|.aq Z<|.me (x.ct.toNat / 6 % 4) ⟨Z,Jt⟩ ⟨Z,Z,Z,Z,Jt⟩ (λ_ s=>s) (by omega)
    exact .sk<|.tN<|.me m0 ⟨Z,Jt⟩ ⟨Z,Z,Z,Z,Jt⟩ (λ_ s=>s) (by omega)
   try simp only [df] at h34
   exact .gG<|.gG<|.gG<|.gG<|.yw (.pickF Z Z)<|.nt<|.cF Z<|.sk<|.tN<|.me m0 ⟨Z,Jt⟩ ⟨Z,Z,Z,Z,Jt⟩ (λ_ s=>s) (by omega)
  have hm3:=hC;refine Sx.row0 27 7 ?_;refine .sq<|.sr<|.aq Z<|.bk<|.lp (X:=Nat × Hp × Value × List Value × Value) [(1,_),(4,_),(7,_),(8,_)] ⟨Z,Z,Z,Z,Jt⟩ [_,_] (λz=>[(9,iN z.1),(0,z.2.2.2.2)]) (λz=>z.2.1) (λz=>[.row 27 7 z.2.2.1 z.1 z.2.2.2.1,.box b7 [.int .i64 op.toNat,cH nm,cH fd,.int .i64 a.toInt,.int .i64 b.toInt,.slice pX ex.length cX,z.2.2.1] 27]) (λz=>z.1<=m/\HUp w H0 z.2.1/\∃ (gs:List Fm) (rest:List Nf),gs.length=z.1/\eR z.2.1 7 (gs.map (dFm .i64)) z.2.2.2.1/\(∀ g∈gs,gdF g=true)/\Fm.counts gs+1010 * rest.length+1010<=1010 * l.length+gs.length/\Rep z.2.1 (.seq 8 (rest.map dNf)) [z.2.2.2.2]) (λz=>m - z.1) (0,H0,.slice none 0 0,[],_) (λ_ s=>s) ⟨Z,Z,Jt⟩ ⟨by simp,.refl,[],l.drop 1,Z,eR.nil,(λg hg=>by cases hg),(by rw [Fm.counts,cM,aL];omega),(by have h5:=UJ h (lo:=1) (by omega);rw [<-zK] at h5;exact h5.up u0.up)⟩ λz hC=>?_
  obtain ⟨k,H1,r,xs,rv⟩:=z;dsimp only at hC|-;obtain ⟨hk0,u1,gs,rest,hlen,hz,hgs,hcn,hrs⟩:=hC;refine .sq<|.sm Z<|.mv Z<|.yw (.lss Z Z)<|.nt<|.ce Z (λh47=>?_) (λh47=>?_)
  ·have hk:k<m:=by omega
   refine .sk<|.tN<|.sq<|.bk<|.sm Z<|.mv Z<|.yw (.add Z Z w7)<|.ct (X:=List Value × Value) QR Z (λW s=>ih (f - 1) (by omega) (d+1) (by omega) H1 _ _ W hrs s.agr) Z λy2 H2 hc2 u2=>?_
   obtain ⟨x2,y2⟩:=y2;obtain ⟨g2,rest2,hc2,hg2,hcn2,hrs2⟩:=hc2;dsimp only at hc2 hrs2|-;obtain ⟨op2,nm2,fd2,a2,b2,ex2,as2⟩:=g2;obtain ⟨p2,c2,q2,d2,rfl,_,_,_,_⟩:=gR hc2;refine .mv Z<|.yw (.extract Z Z)<|.yw (.extract Z Z)<|.al lZ Z λb10=>.sW .head Z Z kG (by simp [Value.oneCell',cH,cNf]) Z<|.aq Z<|.rg<|.fA Z iJ<|.lD Z oL nL Z<|.yw (.loadW Z dY Hm Z)<|.bl Z (ZU _ _ _ _ _ _ _) Z λb60=>.ap (news:=[.int .i64 op2.toNat,cH nm2,cH fd2,.int .i64 a2.toInt,.int .i64 b2.toInt,.slice p2 ex2.length c2,.slice q2 as2.length d2]) bE5 Z (λ_=>oV) Z (.box Hm z0) Z (by simp [Value.oneCell',cH]) (by simp [maxLen];omega) (by omega) Z λr61 _=>?_
   refine At.ra (by first | exact .tail _ (.tail _ Hm) | exact .tail _ (.tail _ (.tail _ Hm))) λp61 c61 e61=>?_;exact .mv Z<|.fA Z iJ<|.st qF Z Z aM8 (by rw [e61];rfl) (nb Z) Z<|.a Z Z<|.nl<|.bN<|.tN<|.rg<|.mv Z<|.yw (.add Z Z w7)<|.aq Z<|.ag (x:=(k,H1,r,xs,rv)) (k+1,H2,r61,xs++[.int .i64 op2.toNat,cH nm2,cH fd2,.int .i64 a2.toInt,.int .i64 b2.toInt,.slice p2 ex2.length c2,.slice q2 as2.length d2],y2) ⟨Z,Z,Jt⟩ ⟨Z,Z,Z,Z,Jt⟩ (λ_ s=>(s.pick [2,3,4,5] _ Z Z)) ⟨by dsimp only;omega,u1.trans u2,gs++[.mk op2 nm2 fd2 a2 b2 ex2 as2],rest2,by simp;omega,by rw [cL];exact (hz.up u2.up).snoc hc2 Z,(λg hg=>by rcases cV.1 hg with h | h;exact hgs g h;rw [cI.1 h];exact hg2),(by rw [pR,Fm.counts,Fm.counts,aH];simp only [aI,aL];omega),hrs2⟩ (by dsimp only;omega)
  obtain rfl:k=m:=by omega
  refine At.ra Hm λp61 c61 e61=>?_;subst e61;refine .ex<|.eb<|.sr<|.yw (.loadW Z dY dC Z)<|.mv Z<|.sW qF Z Z kG (by simp [Value.oneCell',cH,cNf]) Z<|.az Z<|?_
  refine At.pm [0,3] [_,_] rfl rfl ?_;refine lY (ds:=gs.map (dFm .i64)) (by simp;omega) hz λH3 p3 c3 u3 hr3 hs3=>?_;refine y7 Z (.cons (.cell Z dY Hm rfl) (.cons (.tmp Z) .nil)) rfl λW s=>⟨(_,_),H3,⟨.mk op nm fd a b ex gs,rest,CP (k:=.i64) (by omega) (by omega) ((hsX.up u1.up).up u3.up) hs3,?_,?_,hrs.up u3.up⟩,Z,((u0.trans u1).trans u3).grow s⟩
  ·exact SJ.2 ⟨⟨by omega,hexl,by omega,hge⟩,hgs⟩
  ·rw [pJ];omega
def bW5 (x:List Value) (H':Hp):Prop:=∃ g:Fm,Rep H' (dFm .i64 g) x/\gdF g=true/\g.count<=40000
theorem SV (H:Hp) (l:List Nf) (v:Value) (h0:Rep H (.seq 8 (l.map dNf)) [v]) (w:World) (hA:Agr H w) :
 Calls prg 14 #[v] w λr w'=>∃ (x:List Value) (H':Hp),bW5 x H'/\r=.returned (.agg x.toArray)/\xD H w H' w':=by
 obtain ⟨p,c,e,_⟩:=h0.sl;simp only [gD,qV,bJ] at e;subst e;have h:=h0;have hcap:=h.cap;refine Sx.enter (H:=H) func14 rfl ntmps14 rfl hA ?_;refine .sr<|.al lZ Z λb2=>.ns<|.mv Z<|.mv Z<|.yw (.lenSl GQ Z)<|.yw (.min2 Z Z (c:=((min l.length 30:Nat):Int)) (by omega))<|.yw (.cutHi2 GQ Z Z (h:=min l.length 30) Z (by have:=h.len.2.1;omega))<|.ct (X:=List Value × Value) QR Z (λW s=>WJ 12 1 Z H (l.take (min l.length 30)) _ W (by rw [zJ];exact OY h (by omega)) s.agr) Z λy H1 hc u1=>?_
 obtain ⟨x,y⟩:=y;obtain ⟨e,rest,hx,hg,hcn,_⟩:=hc;dsimp only at hx;rw [dT] at hcn;refine .mv Z<|.yw (.extract Z Z)<|.yw (.extract Z Z)<|.al lZ Z λb3=>.sV .head Z Z kG (tW hx) hx.one Z<|.a Z Z<|.ns<|.yw (.loadW Z dY Hm (tW hx))<|.sV mD Z Z kG (tW hx) hx.one Z<|.nt<|.rt<|?_
 exact y8 Z (.cell Z dY dC (tW hx)) λW t=>⟨x,H1,⟨e,hx,hg,by omega⟩,Z,u1.grow t⟩
theorem IH:cZ prg 16=true:=by kernel_rfl
theorem nF:slN prg 25=some 7:=by kernel_rfl
theorem FA (x0:Int) (x1 x2:ByteArray) (x3 x4:Int):iG prg 35 [(0,.int .u8 x0),(1,.string x1),(2,.string x2),(3,.int .i64 x3),(4,.int .i64 x4)]=some [.int .u8 x0,.string x1,.string x2,.int .i64 x3,.int .i64 x4,.slice none 0 0,.slice none 0 0]:=by kernel_rfl
end Go.Proofs.YtidclioghdbphaaGreatDoor
