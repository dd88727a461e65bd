/- Texts of the proof, one behind the other. -/
import Derived.Test.YtmbiojpcidccjaaGreatDoorMb
import Derived.Shelf.Strings.Builder1
import Derived.Shelf.Strings.Builder2
import Derived.Shelf.Strings.OnBuilder
import Derived.Shelf.Small.Wraps
import Derived.Shelf.Strings.BuilderF
import Derived.Shelf.Strings.BuilderK
import Derived.Shelf.Strings.Builder2Cap
import Derived.Shelf.Strconv.Itoa0
import Derived.Shelf.Strconv.Itoa1
import Derived.Shelf.LaysM
import Derived.Shelf.Strconv.Itoa2
import Derived.Shelf.Strconv.Itoa3
import Derived.Shelf.Strconv.Itoa4
import Derived.Shelf.Strings.Prefix
import Derived.Shelf.Strings.BuilderCap
import Derived.Test.YtmbiojpcidccjaaGreatDoorProg
import Derived.Lib.ItoaNum
import Derived.Lib.Join
import Derived.Lib.ItoaLen
set_option linter.all false
namespace Go.Proofs
open Go.Shelf
def Tryz.lays156_ren : Go.Shelf.Ren := ⟨fun | 156 => 110 | 165 => 132 | 166 => 73 | 169 => 39 | 240 => 108 | 241 => 149 | 276 => 127 | 277 => 154 | n => n,fun | 31 => 66 | 9 => 9 | 3 => 3 | 4 => 4 | 0 => 0 | 20 => 20 | 72 => 110 | 76 => 158 | 70 => 108 | 37 => 22 | 75 => 157 | 127 => 163 | 164 => 222 | 5 => 5 | 80 => 116 | n => n,fun | n => n⟩
theorem Tryz.lays156 : Go.Proofs.Lays.n156 Tryz.prog Tryz.lays156_ren := {
 mixed := by kernel_rfl
 f156 := Tryz.func110.trans (congrArg some (by kernel_rfl))
 f165 := Tryz.func132.trans (congrArg some (by kernel_rfl))
 f166 := Tryz.func73.trans (congrArg some (by kernel_rfl))
 f169 := Tryz.func39.trans (congrArg some (by kernel_rfl))
 f240 := Tryz.func108.trans (congrArg some (by kernel_rfl))
 f241 := Tryz.func149.trans (congrArg some (by kernel_rfl))
 f276 := Tryz.func127.trans (congrArg some (by kernel_rfl))
 f277 := Tryz.func154.trans (congrArg some (by kernel_rfl))
 t0 := Tryz.underlying0
 a0 := Tryz.isAgg0
 z0 := Tryz.sizeOf0
 v0 := Tryz.zeroValue0
 t3 := Tryz.underlying3
 a3 := Tryz.isAgg3
 z3 := Tryz.sizeOf3
 v3 := Tryz.zeroValue3
 t4 := Tryz.underlying4
 a4 := Tryz.isAgg4
 z4 := Tryz.sizeOf4
 v4 := Tryz.zeroValue4
 t9 := Tryz.underlying9
 a9 := Tryz.isAgg9
 z9 := Tryz.sizeOf9
 v9 := Tryz.zeroValue9
 t20 := Tryz.underlying20
 a20 := Tryz.isAgg20
 z20 := Tryz.sizeOf20
 v20 := Tryz.zeroValue20
 t31 := Tryz.underlying66
 a31 := Tryz.isAgg66
 z31 := Tryz.sizeOf66
 v31 := Tryz.zeroValue66
 t37 := Tryz.underlying22
 a37 := Tryz.isAgg22
 z37 := Tryz.sizeOf22
 v37 := Tryz.zeroValue22
 t70 := Tryz.underlying108
 a70 := Tryz.isAgg108
 z70 := Tryz.sizeOf108
 v70 := Tryz.zeroValue108
 t72 := Tryz.underlying110
 a72 := Tryz.isAgg110
 z72 := Tryz.sizeOf110
 v72 := Tryz.zeroValue110
 t75 := Tryz.underlying157
 a75 := Tryz.isAgg157
 z75 := Tryz.sizeOf157
 v75 := Tryz.zeroValue157
 t76 := Tryz.underlying158
 a76 := Tryz.isAgg158
 z76 := Tryz.sizeOf158
 v76 := Tryz.zeroValue158
 t127 := Tryz.underlying163
 a127 := Tryz.isAgg163
 z127 := Tryz.sizeOf163
 v127 := Tryz.zeroValue163
 t164 := Tryz.underlying222
 a164 := Tryz.isAgg222
 z164 := Tryz.sizeOf222
 v164 := Tryz.zeroValue222 }
theorem Tryz.Builder_Extra_156 : Builder.Extra Tryz.prog Tryz.lays156_ren := {
 sizeBuilder := by kernel_rfl
 liesBuilder := by kernel_rfl
 t5 := Tryz.underlying5
 a5 := Tryz.isAgg5
 z5 := Tryz.sizeOf5
 v5 := Tryz.zeroValue5
 infoByte := by kernel_rfl
 cellsByte := by kernel_rfl
 sizeByte := by kernel_rfl
 neB5 := by decide }
open Go.RowKit in
theorem Tryz.strings_Join_none (a : Option Addr) (c : Nat) (sep : ByteArray) (w : World) :
 Calls Tryz.prog 110 #[.slice a 0 c,.string sep] w fun e w' => e = .returned (.string ⟨#[]⟩) ∧ w' = w := Any.strings_Join_none Tryz.lays156 Tryz.Builder_Extra_156 a c sep w
open Go.RowKit in
theorem Tryz.strings_Join (bk o c : Nat) (xs : List ByteArray) (sep : ByteArray) (w : World) (hcells : ∀ (j : Nat) x,xs[j]? = some x → w.cell? ⟨bk,o + j,none⟩ = some (.string x)) (hbk : bk < w.heap.size) (hN : xs.length ≤ 140737488355328) (hcap : xs.length ≤ c) (hlen : (Lib.join (xs.map (·.data.toList)) sep.data.toList).length ≤ 140737488355328) :
 Calls Tryz.prog 110 #[.slice (some ⟨bk,o,none⟩) xs.length c,.string sep] w fun e w' => e = .returned (.string ⟨(Lib.join (xs.map (·.data.toList)) sep.data.toList).toArray⟩) ∧ Below w.heap.size w w' := Any.strings_Join Tryz.lays156 Tryz.Builder_Extra_156 bk o c xs sep w hcells hbk hN hcap hlen
def Tryz.lays121_ren : Go.Shelf.Ren := ⟨fun | 121 => 36 | 214 => 75 | n => n,fun | 4 => 4 | 9 => 9 | n => n,fun | n => n⟩
theorem Tryz.lays121 : Go.Proofs.Lays.n121 Tryz.prog Tryz.lays121_ren := {
 mixed := by kernel_rfl
 f121 := Tryz.func36.trans (congrArg some (by kernel_rfl))
 f214 := Tryz.func75.trans (congrArg some (by kernel_rfl))
 t4 := Tryz.underlying4
 a4 := Tryz.isAgg4
 z4 := Tryz.sizeOf4
 v4 := Tryz.zeroValue4
 t9 := Tryz.underlying9
 a9 := Tryz.isAgg9
 z9 := Tryz.sizeOf9
 v9 := Tryz.zeroValue9 }
open Go.RowKit in
theorem Tryz.strconv_FormatBool (b : Bool) (w : World) :
 Calls Tryz.prog 36 #[.bool b] w fun e w' => e = .returned (.string ⟨(Lib.formatBool b).toArray⟩) ∧ w' = w := Any.strconv_FormatBool Tryz.lays121 b w
def Tryz.laysM171_ren : Go.Shelf.Ren := ⟨fun | 171 => 37 | 243 => 76 | 246 => 109 | 283 => 128 | 284 => 129 | 285 => 130 | 286 => 131 | 129 => 145 | 317 => 144 | 318 => 146 | 319 => 147 | 320 => 148 | 337 => 152 | 338 => 153 | n => n,fun | 3 => 3 | 9 => 9 | 2 => 2 | 4 => 4 | 171 => 224 | 0 => 0 | 53 => 139 | 37 => 22 | 5 => 5 | 173 => 227 | 212 => 237 | 51 => 238 | 20 => 20 | 213 => 239 | 46 => 241 | 232 => 248 | 233 => 249 | n => n,fun | 17 => 4 | 18 => 5 | 19 => 6 | n => n⟩
theorem Tryz.laysM171 : Go.Proofs.LaysM.n171 Tryz.prog Tryz.laysM171_ren := {
 mixed := by kernel_rfl
 f129 := Tryz.func145.trans (congrArg some (by kernel_rfl))
 f171 := Tryz.func37.trans (congrArg some (by kernel_rfl))
 f243 := Tryz.func76.trans (congrArg some (by kernel_rfl))
 f246 := Tryz.func109.trans (congrArg some (by kernel_rfl))
 f283 := Tryz.func128.trans (congrArg some (by kernel_rfl))
 f284 := Tryz.func129.trans (congrArg some (by kernel_rfl))
 f285 := Tryz.func130.trans (congrArg some (by kernel_rfl))
 f286 := Tryz.func131.trans (congrArg some (by kernel_rfl))
 f317 := Tryz.func144.trans (congrArg some (by kernel_rfl))
 f318 := Tryz.func146.trans (congrArg some (by kernel_rfl))
 f319 := Tryz.func147.trans (congrArg some (by kernel_rfl))
 f320 := Tryz.func148.trans (congrArg some (by kernel_rfl))
 f337 := Tryz.func152.trans (congrArg some (by kernel_rfl))
 f338 := Tryz.func153.trans (congrArg some (by kernel_rfl))
 t0 := Tryz.underlying0
 a0 := Tryz.isAgg0
 z0 := Tryz.sizeOf0
 v0 := Tryz.zeroValue0
 t2 := Tryz.underlying2
 a2 := Tryz.isAgg2
 z2 := Tryz.sizeOf2
 v2 := Tryz.zeroValue2
 t3 := Tryz.underlying3
 a3 := Tryz.isAgg3
 z3 := Tryz.sizeOf3
 v3 := Tryz.zeroValue3
 t4 := Tryz.underlying4
 a4 := Tryz.isAgg4
 z4 := Tryz.sizeOf4
 v4 := Tryz.zeroValue4
 t5 := Tryz.underlying5
 a5 := Tryz.isAgg5
 z5 := Tryz.sizeOf5
 v5 := Tryz.zeroValue5
 t9 := Tryz.underlying9
 a9 := Tryz.isAgg9
 z9 := Tryz.sizeOf9
 v9 := Tryz.zeroValue9
 t20 := Tryz.underlying20
 a20 := Tryz.isAgg20
 z20 := Tryz.sizeOf20
 v20 := Tryz.zeroValue20
 t37 := Tryz.underlying22
 a37 := Tryz.isAgg22
 z37 := Tryz.sizeOf22
 v37 := Tryz.zeroValue22
 t46 := Tryz.underlying241
 a46 := Tryz.isAgg241
 z46 := Tryz.sizeOf241
 v46 := Tryz.zeroValue241
 t51 := Tryz.underlying238
 a51 := Tryz.isAgg238
 z51 := Tryz.sizeOf238
 v51 := Tryz.zeroValue238
 t53 := Tryz.underlying139
 a53 := Tryz.isAgg139
 z53 := Tryz.sizeOf139
 v53 := Tryz.zeroValue139
 t171 := Tryz.underlying224
 a171 := Tryz.isAgg224
 z171 := Tryz.sizeOf224
 v171 := Tryz.zeroValue224
 t173 := Tryz.underlying227
 a173 := Tryz.isAgg227
 z173 := Tryz.sizeOf227
 v173 := Tryz.zeroValue227
 t212 := Tryz.underlying237
 a212 := Tryz.isAgg237
 z212 := Tryz.sizeOf237
 v212 := Tryz.zeroValue237
 t213 := Tryz.underlying239
 a213 := Tryz.isAgg239
 z213 := Tryz.sizeOf239
 t232 := Tryz.underlying248
 a232 := Tryz.isAgg248
 z232 := Tryz.sizeOf248
 v232 := Tryz.zeroValue248
 t233 := Tryz.underlying249
 a233 := Tryz.isAgg249
 z233 := Tryz.sizeOf249
 v233 := Tryz.zeroValue249
 g17 := by kernel_rfl
 g18 := by kernel_rfl
 g19 := by kernel_rfl
 i0 := by kernel_rfl
 i2 := by kernel_rfl
 i3 := by kernel_rfl
 i4 := by kernel_rfl
 i5 := by kernel_rfl
 i9 := by kernel_rfl
 i20 := by kernel_rfl
 i37 := by kernel_rfl
 i46 := by kernel_rfl
 i51 := by kernel_rfl
 i53 := by kernel_rfl
 i171 := by kernel_rfl
 i173 := by kernel_rfl
 i212 := by kernel_rfl
 i232 := by kernel_rfl
 i233 := by kernel_rfl
 m17 := by kernel_rfl
 m18 := by kernel_rfl
 m19 := by kernel_rfl }
open Go.RowKit Go.Sort Go.Lib in
theorem Tryz.strconv_Itoa (n : Int) (h0 : -9223372036854775808 ≤ n) (h1 : n ≤ 9223372036854775807) (w : World) (htab : Lib.TabIs Tryz.prog w "internal/strconv.uint64pow10" .u64 Lib.pow10Tab) :
 Calls Tryz.prog 37 #[.int .i64 n] w fun e w' => e = .returned (.string ⟨(Lib.itoa n).toArray⟩) ∧ ∃ k os,w' = grow (w.drewN k) os := Any.strconv_Itoa Tryz.laysM171 n h0 h1 w htab
def Tryz.laysM173_ren : Go.Shelf.Ren := ⟨fun | 173 => 77 | 246 => 109 | 283 => 128 | 284 => 129 | 285 => 130 | 286 => 131 | 129 => 145 | 317 => 144 | 318 => 146 | 319 => 147 | 320 => 148 | 337 => 152 | 338 => 153 | n => n,fun | 2 => 2 | 3 => 3 | 9 => 9 | 4 => 4 | 171 => 224 | 0 => 0 | 53 => 139 | 37 => 22 | 5 => 5 | 173 => 227 | 212 => 237 | 51 => 238 | 20 => 20 | 213 => 239 | 46 => 241 | 232 => 248 | 233 => 249 | n => n,fun | 17 => 4 | 18 => 5 | 19 => 6 | n => n⟩
theorem Tryz.laysM173 : Go.Proofs.LaysM.n173 Tryz.prog Tryz.laysM173_ren := {
 mixed := by kernel_rfl
 f129 := Tryz.func145.trans (congrArg some (by kernel_rfl))
 f173 := Tryz.func77.trans (congrArg some (by kernel_rfl))
 f246 := Tryz.func109.trans (congrArg some (by kernel_rfl))
 f283 := Tryz.func128.trans (congrArg some (by kernel_rfl))
 f284 := Tryz.func129.trans (congrArg some (by kernel_rfl))
 f285 := Tryz.func130.trans (congrArg some (by kernel_rfl))
 f286 := Tryz.func131.trans (congrArg some (by kernel_rfl))
 f317 := Tryz.func144.trans (congrArg some (by kernel_rfl))
 f318 := Tryz.func146.trans (congrArg some (by kernel_rfl))
 f319 := Tryz.func147.trans (congrArg some (by kernel_rfl))
 f320 := Tryz.func148.trans (congrArg some (by kernel_rfl))
 f337 := Tryz.func152.trans (congrArg some (by kernel_rfl))
 f338 := Tryz.func153.trans (congrArg some (by kernel_rfl))
 t0 := Tryz.underlying0
 a0 := Tryz.isAgg0
 z0 := Tryz.sizeOf0
 v0 := Tryz.zeroValue0
 t2 := Tryz.underlying2
 a2 := Tryz.isAgg2
 z2 := Tryz.sizeOf2
 v2 := Tryz.zeroValue2
 t3 := Tryz.underlying3
 a3 := Tryz.isAgg3
 z3 := Tryz.sizeOf3
 v3 := Tryz.zeroValue3
 t4 := Tryz.underlying4
 a4 := Tryz.isAgg4
 z4 := Tryz.sizeOf4
 v4 := Tryz.zeroValue4
 t5 := Tryz.underlying5
 a5 := Tryz.isAgg5
 z5 := Tryz.sizeOf5
 v5 := Tryz.zeroValue5
 t9 := Tryz.underlying9
 a9 := Tryz.isAgg9
 z9 := Tryz.sizeOf9
 v9 := Tryz.zeroValue9
 t20 := Tryz.underlying20
 a20 := Tryz.isAgg20
 z20 := Tryz.sizeOf20
 v20 := Tryz.zeroValue20
 t37 := Tryz.underlying22
 a37 := Tryz.isAgg22
 z37 := Tryz.sizeOf22
 v37 := Tryz.zeroValue22
 t46 := Tryz.underlying241
 a46 := Tryz.isAgg241
 z46 := Tryz.sizeOf241
 v46 := Tryz.zeroValue241
 t51 := Tryz.underlying238
 a51 := Tryz.isAgg238
 z51 := Tryz.sizeOf238
 v51 := Tryz.zeroValue238
 t53 := Tryz.underlying139
 a53 := Tryz.isAgg139
 z53 := Tryz.sizeOf139
 v53 := Tryz.zeroValue139
 t171 := Tryz.underlying224
 a171 := Tryz.isAgg224
 z171 := Tryz.sizeOf224
 v171 := Tryz.zeroValue224
 t173 := Tryz.underlying227
 a173 := Tryz.isAgg227
 z173 := Tryz.sizeOf227
 v173 := Tryz.zeroValue227
 t212 := Tryz.underlying237
 a212 := Tryz.isAgg237
 z212 := Tryz.sizeOf237
 v212 := Tryz.zeroValue237
 t213 := Tryz.underlying239
 a213 := Tryz.isAgg239
 z213 := Tryz.sizeOf239
 t232 := Tryz.underlying248
 a232 := Tryz.isAgg248
 z232 := Tryz.sizeOf248
 v232 := Tryz.zeroValue248
 t233 := Tryz.underlying249
 a233 := Tryz.isAgg249
 z233 := Tryz.sizeOf249
 v233 := Tryz.zeroValue249
 g17 := by kernel_rfl
 g18 := by kernel_rfl
 g19 := by kernel_rfl
 i0 := by kernel_rfl
 i2 := by kernel_rfl
 i3 := by kernel_rfl
 i4 := by kernel_rfl
 i5 := by kernel_rfl
 i9 := by kernel_rfl
 i20 := by kernel_rfl
 i37 := by kernel_rfl
 i46 := by kernel_rfl
 i51 := by kernel_rfl
 i53 := by kernel_rfl
 i171 := by kernel_rfl
 i173 := by kernel_rfl
 i212 := by kernel_rfl
 i232 := by kernel_rfl
 i233 := by kernel_rfl
 m17 := by kernel_rfl
 m18 := by kernel_rfl
 m19 := by kernel_rfl }
open Go.RowKit Go.Sort Go.Lib in
theorem Tryz.strconv_FormatInt_10 (n : Int) (h0 : -9223372036854775808 ≤ n) (h1 : n ≤ 9223372036854775807) (w : World) (htab : Lib.TabIs Tryz.prog w "internal/strconv.uint64pow10" .u64 Lib.pow10Tab) :
 Calls Tryz.prog 77 #[.int .i64 n,.int .i64 10] w fun e w' => e = .returned (.string ⟨(Lib.itoa n).toArray⟩) ∧ ∃ k os,w' = grow (w.drewN k) os := Any.strconv_FormatInt_10 Tryz.laysM173 n h0 h1 w htab
end Go.Proofs
namespace Go.Proofs.YtmbiojpcidccjaaGreatDoor
open Go.RowKit Go.Par Go.Sx
def opT (least : Nat) (x : Nat × Str) : Str := if x.1 < least then [40] ++ x.2 ++ [41] else x.2
def lftT (lv : Nat) : Nat := if lv = 3 then lv + 1 else lv
def txt (op : UInt8) (nm : Str) (n : Int64) (ls : List (Nat × Str)) : Str :=
 if op = 1 then Lib.itoa n.toInt
 else if op = 5 ∨ op = 8 then (shapeOf op).tx ++ nm
 else if op = 6 ∨ op = 7 then (shapeOf op).tx ++ nm ++ [91] ++ (ls.getD 0 (0,[])).2 ++ [93]
 else if op = 9 ∨ op = 10 then (shapeOf op).tx ++ opT (shapeOf op).lv (ls.getD 0 (0,[]))
 else if (shapeOf op).n = 0 then (shapeOf op).tx
 else opT (lftT (shapeOf op).lv) (ls.getD 0 (0,[])) ++ (shapeOf op).tx ++ opT ((shapeOf op).lv + 1) (ls.getD 1 (0,[]))
mutual
def Ex.text : Ex → Str
 | .mk op nm n args => txt op nm n (Ex.texts args)
def Ex.texts : List Ex → List (Nat × Str)
 | [] => []
 | e :: r => ((shapeOf e.op).lv,Ex.text e) :: Ex.texts r
end
theorem texts_map : ∀ l : List Ex,Ex.texts l = l.map fun e => ((shapeOf e.op).lv,Ex.text e)
 | [] => rfl
 | e :: r => by rw [Ex.texts,texts_map r];rfl
theorem text_mk (op : UInt8) (nm : Str) (n : Int64) (args : List Ex) : Ex.text (.mk op nm n args) = txt op nm n (args.map fun e => ((shapeOf e.op).lv,Ex.text e)) := by rw [Ex.text,texts_map]
theorem map_getD {α β : Type} {f : α → β} {l : List α} {k : Nat} (h : k < l.length) (d : β) : (l.map f).getD k d = f l[k] := by simp [h]
theorem shape_ok {op : UInt8} (h : okOp op = true) : shapeOf op = shapes.getD op.toNat ⟨0,false,0,[]⟩ := by rw [shapeOf,h];rfl
theorem shape_n {op : UInt8} (h : okOp op = true) (h6 : op ≠ 6) (h7 : op ≠ 7) (h9 : op ≠ 9) (h10 : op ≠ 10) : (shapeOf op).n = 0 ∨ (shapeOf op).n = 2 := by
 rw [shape_ok h]
 simp only [okOp,Bool.and_eq_true,decide_eq_true_eq] at h
 have e : ∀ v : UInt8,op ≠ v → op.toNat ≠ v.toNat := fun v hv e => hv (UInt8.toNat_inj.1 e)
 have key : ∀ i ∈ List.range 24,i = 6 ∨ i = 7 ∨ i = 9 ∨ i = 10 ∨ (shapes.getD i ⟨0,false,0,[]⟩).n = 0 ∨ (shapes.getD i ⟨0,false,0,[]⟩).n = 2 := by decide
 have h1 : op.toNat ≠ 6 := e 6 h6
 have h2 : op.toNat ≠ 7 := e 7 h7
 have h3 : op.toNat ≠ 9 := e 9 h9
 have h4 : op.toNat ≠ 10 := e 10 h10
 have := key op.toNat (List.mem_range.2 (by omega))
 omega
theorem shape_lv (op : UInt8) : (shapeOf op).lv ≤ 7 := by
 unfold shapeOf
 split
 ·rename_i h
  simp only [okOp,Bool.and_eq_true,decide_eq_true_eq] at h
  have key : ∀ i ∈ List.range 24,(shapes.getD i ⟨0,false,0,[]⟩).lv ≤ 7 := by decide
  exact key _ (List.mem_range.2 (by omega))
 ·simp
theorem shape_tx (op : UInt8) : (shapeOf op).tx.length ≤ 10 := by
 unfold shapeOf
 split
 ·rename_i h
  simp only [okOp,Bool.and_eq_true,decide_eq_true_eq] at h
  have key : ∀ i ∈ List.range 24,(shapes.getD i ⟨0,false,0,[]⟩).tx.length ≤ 10 := by decide
  exact key _ (List.mem_range.2 (by omega))
 ·simp
theorem opT_len (k : Nat) (x : Nat × Str) : x.2.length ≤ (opT k x).length ∧ (opT k x).length ≤ x.2.length + 2 := by unfold opT;split <;> simp <;> omega
theorem Fx.call52 : callN Tryz.prog 52 = Bool.true := by kernel_rfl
theorem Fx.call77 : callN Tryz.prog 77 = Bool.true := by kernel_rfl
theorem Fx.call92 : callN Tryz.prog 92 = Bool.true := by kernel_rfl
theorem Fx.field180_2 : fieldN Tryz.prog 180 2 = Option.some 2 := by kernel_rfl
theorem Fx.field180_3 : fieldN Tryz.prog 180 3 = Option.some 3 := by kernel_rfl
def Gt (H : Hp) : Prop := ∀ W,Agr H W → Lib.TabIs Tryz.prog W "internal/strconv.uint64pow10" .u64 Lib.pow10Tab
theorem Gt.up {H H' : Hp} (g : Gt H) (u : Up H H') : Gt H' := fun W a => g W fun b o e => a b o (u b o e)
theorem ext_grow {w : World} (os : Array Obj) : Ext w (Sort.grow w os) :=
 Ext.of_below ⟨rfl,rfl,rfl,by simp [Sort.grow],fun k hk => by simp [Sort.grow,Array.getElem?_append,hk]⟩
theorem formatInt_any (H : Hp) (g : Gt H) (n : Int64) (w : World) (hA : Agr H w) : Calls Tryz.prog 77 #[.int .i64 n.toInt,.int .i64 10] w fun r w' => r = .returned (strV (Lib.itoa n.toInt)) ∧ Ext w w' :=
 (Tryz.strconv_FormatInt_10 n.toInt (by have := n.le_toInt;omega) (by have := n.toInt_lt;omega) w (g w hA)).mono fun _ _ ⟨he,k,os,hw⟩ => ⟨he,hw ▸ ((Ext.refl w).drewN k).trans (ext_grow os)⟩
def TextOf (H : Hp) (e : Ex) : Prop := ∀ (cs : List Value) (w : World),Rep H (dEx .u8 e) cs → Ex.all frmE e = true → e.text.length ≤ 1000000000 → Agr H w →
 Calls Tryz.prog 52 #[.agg cs.toArray] w fun r w' => r = .returned (strV e.text) ∧ Ext w w'
set_option maxRecDepth 100000 in
theorem operand_any (H : Hp) (G : Gl H) (e : Ex) (ht : TextOf H e) (cs : List Value) (h : Rep H (dEx .u8 e) cs) (hf : Ex.all frmE e = true) (hl : e.text.length ≤ 1000000000) (k : Nat) (w : World) (hA : Agr H w) :
 Calls Tryz.prog 92 #[.agg cs.toArray,.int .i64 (k : Nat)] w fun r w' => r = .returned (strV (opT k ((shapeOf e.op).lv,e.text))) ∧ Ext w w' := by
 obtain ⟨op,nm,nn,args⟩ := e
 obtain ⟨p,c,rfl,hs,hnm⟩ := ex_open h
 refine Sx.enter (H := H) Tryz.func92 rfl Tryz.ntmps92 rfl hA ?_
 refine .sr<|.bx Z Z Z fun b2 => .a Z Z<|.nt<|.sq<|.sr<|.yv (.fieldAddr Z Fx.field60_0) Z<|.yv (.load Z Fx.agg57 (.head _) Z) Z<|.yv (.call Fx.call91 Z (fun W s => shape_any H G op W s.agr)) Z<|.m Z Z<|.yv (.extract Z Z) Z<|.yv (.extract Z Z) Z<|.al Fx.zero180 Z fun b5 => .sV .head Z Z Fx.size180 Z (by simp [shapeC,Value.oneCell',strV]) Z<|.a Z Z<|.ns<|.yv (.fieldAddr Z Fx.field180_2) Z<|.yv (.load Z Fx.agg3 (.head _) Z) Z<|.m Z Z<|.yv (.lss Z Z) Z<|.nt<|.cd Z (fun h16 => ?_) (fun h16 => ?_)
 ·try simp only [dt] at h16
  refine .sr<|.yv (.loadW Z Fx.agg60 (.tail _<|.head _) Z) Z<|.yv (.call Fx.call52 Z (fun W s => ht _ W h hf hl s.agr)) Z<|.yv (.app Z Z (by simp;omega)) Z<|.yv (.app Z Z (by simp;omega)) Z<|.a Z Z<|.nt<|.rt<|.tR<|?_
  refine Sx.ret1 (.inl rfl) rfl (.tmp rfl) fun W s => ⟨?_,s.ext⟩
  first
   | (rw [opT,if_pos (by show (shapeOf op).lv < k;omega)] <;> rfl)
   | (rw [opT,if_neg (by show ¬ (shapeOf op).lv < k;omega)] <;> rfl)
 try simp only [df] at h16
 refine .sk<|.tN<|.sr<|.yv (.loadW Z Fx.agg60 (.tail _<|.head _) Z) Z<|.yv (.call Fx.call52 Z (fun W s => ht _ W h hf hl s.agr)) Z<|.a Z Z<|.nt<|.rt<|?_
 refine Sx.ret1 (.inl rfl) rfl (.tmp rfl) fun W s => ⟨?_,s.ext⟩
 first
  | (rw [opT,if_pos (by show (shapeOf op).lv < k;omega)] <;> rfl)
  | (rw [opT,if_neg (by show ¬ (shapeOf op).lv < k;omega)] <;> rfl)
theorem lalls_at {q : Ex → Bool} {l : List Ex} {k : Nat} (h : k < l.length) (ha : Ex.alls q l = true) : Ex.all q l[k] = true := by
 cases hb : Ex.all q l[k] with
 | true => rfl
 | false => rw [alls_bad h hb] at ha;cases ha
set_option maxRecDepth 100000 in
theorem text_any (H : Hp) (G : Gl H) (g : Gt H) (e : Ex) : TextOf H e := by
 induction e using Ex.ind with | _ op nm nn args ih
 intro cs w h hf hl hA
 obtain ⟨p,c,rfl,hs,hnm⟩ := ex_open h
 rw [all_mk,Bool.and_eq_true] at hf
 obtain ⟨hf1,hf2⟩ := hf
 simp only [frmE,Bool.and_eq_true,decide_eq_true_eq] at hf1
 obtain ⟨⟨⟨hok,har⟩,_⟩,_⟩ := hf1
 refine Sx.enter (H := H) Tryz.func52 rfl Tryz.ntmps52 rfl hA ?_
 refine .sr<|.bx Z Z Z fun b1 => .a Z Z<|.ns<|.yv (.fieldAddr Z Fx.field60_0) Z<|.yv (.load Z Fx.agg57 (.head _) Z) Z<|.yv (.call Fx.call91 Z (fun W s => shape_any H G op W s.agr)) Z<|.m Z Z<|.yv (.extract Z Z) Z<|.yv (.extract Z Z) Z<|.al Fx.zero180 Z fun b3 => .sV .head Z Z Fx.size180 Z (by simp [shapeC,Value.oneCell',strV]) Z<|.a Z Z<|.nt<|.sq<|.sr<|.yv (.fieldAddr Z Fx.field60_0) Z<|.yv (.load Z Fx.agg57 (.tail _<|.head _) Z) Z<|.nt<|.bk<|.sr<|.yv (.eql Z Z) Z<|.a Z Z<|.nt<|.cd Z (fun h14 => ?_) (fun h14 => ?_)
 ·try simp only [dt] at h14
  have e1 : op = 1 := UInt8.toNat_inj.1 (by show op.toNat = 1;omega)
  refine .sr<|.yv (.fieldAddr Z Fx.field60_2) Z<|.yv (.load Z Fx.agg2 (.tail _<|.head _) Z) Z<|.yv (.call Fx.call77 Z (fun W s => formatInt_any H g nn W s.agr)) Z<|.a Z Z<|.nt<|.rt<|.bR<|.tR<|?_
  refine Sx.ret1 (.inl rfl) rfl (.tmp rfl) fun W s => ⟨?_,s.ext⟩
  first
   | (rw [text_mk,txt,if_pos e1] <;> rfl)
   | (rw [text_mk,txt,if_neg e1,if_pos q2] <;> rfl)
   | (rw [text_mk,txt,if_neg e1,if_neg q2,if_pos q3,map_getD h0] <;> rfl)
   | (rw [text_mk,txt,if_neg e1,if_neg q2,if_neg q3,if_pos q4,map_getD h0] <;> rfl)
   | (rw [text_mk,txt,if_neg e1,if_neg q2,if_neg q3,if_neg q4,if_pos q5] <;> rfl)
   | (rw [text_mk,txt,if_neg e1,if_neg q2,if_neg (not_or.2 q3),if_neg (not_or.2 q4),if_neg q5,map_getD h0,map_getD h1] <;> rfl)
 try simp only [df] at h14
 have e1 : ¬ op = 1 := fun e => h14 (by rw [e];rfl)
 refine .cu (X := Bool) [(1,_),(3,_),(13,_)] ⟨rfl,rfl,rfl,trivial⟩ (fun z => [(19,.bool z)]) (fun z => H) (fun z => [.box b3 (shapeC (shapeOf op)) 180,.box b1 [.int .u8 op.toNat,strV nm,.int .i64 nn.toInt,.slice p args.length c] 60]) (fun z => z = decide (op = 5 ∨ op = 8)) ?_ fun z hC => ?_
 ·
  refine .sr<|.yv (.eql Z Z) Z<|.a Z Z<|.nt<|.cd Z (fun h19 => ?_) (fun h19 => ?_)
  ·skip
   exact .sk<|.tN<|.me _ ⟨rfl,trivial⟩ ⟨rfl,rfl,rfl,trivial⟩ (fun _ s => s) (by rw [Bool.eq_iff_iff];simp only [decide_eq_true_eq,← UInt8.toNat_inj,show (UInt8.toNat 5) = 5 from Z,show (UInt8.toNat 8) = 8 from Z];(try simp only [decide_eq_true_eq,decide_eq_false_iff_not] at *);omega)
  skip
  exact .rg<|.yv (.eql Z Z) Z<|.a Z Z<|.nt<|.me _ ⟨rfl,trivial⟩ ⟨rfl,rfl,rfl,trivial⟩ (fun _ s => s) (by rw [Bool.eq_iff_iff];simp only [decide_eq_true_eq,← UInt8.toNat_inj,show (UInt8.toNat 5) = 5 from Z,show (UInt8.toNat 8) = 8 from Z];(try simp only [decide_eq_true_eq,decide_eq_false_iff_not] at *);omega)
 have e2 := hC
 refine .cd Z (fun h19 => ?_) (fun h19 => ?_)
 ·have q2 : op = 5 ∨ op = 8 := by rw [h19] at e2;simpa using e2.symm
  have ht := shape_tx op
  refine .sr<|.yv (.fieldAddr Z Fx.field180_3) Z<|.yv (.load Z Fx.agg9 (.head _) Z) Z<|.yv (.fieldAddr Z Fx.field60_1) Z<|.yv (.load Z Fx.agg9 (.tail _<|.head _) Z) Z<|.yv (.app Z Z (by (try simp only [List.length_append,List.length_cons,List.length_nil]);omega)) Z<|.a Z Z<|.nt<|.rt<|.bR<|.tR<|?_
  refine Sx.ret1 (.inl rfl) rfl (.tmp rfl) fun W s => ⟨?_,s.ext⟩
  first
   | (rw [text_mk,txt,if_pos e1] <;> rfl)
   | (rw [text_mk,txt,if_neg e1,if_pos q2] <;> rfl)
   | (rw [text_mk,txt,if_neg e1,if_neg q2,if_pos q3,map_getD h0] <;> rfl)
   | (rw [text_mk,txt,if_neg e1,if_neg q2,if_neg q3,if_pos q4,map_getD h0] <;> rfl)
   | (rw [text_mk,txt,if_neg e1,if_neg q2,if_neg q3,if_neg q4,if_pos q5] <;> rfl)
   | (rw [text_mk,txt,if_neg e1,if_neg q2,if_neg (not_or.2 q3),if_neg (not_or.2 q4),if_neg q5,map_getD h0,map_getD h1] <;> rfl)
 have q2 : ¬ (op = 5 ∨ op = 8) := by rw [h19] at e2;simpa using e2.symm
 refine .cu (X := Bool) [(1,_),(3,_),(13,_)] ⟨rfl,rfl,rfl,trivial⟩ (fun z => [(27,.bool z)]) (fun z => H) (fun z => [.box b3 (shapeC (shapeOf op)) 180,.box b1 [.int .u8 op.toNat,strV nm,.int .i64 nn.toInt,.slice p args.length c] 60]) (fun z => z = decide (op = 6 ∨ op = 7)) ?_ fun z hC => ?_
 ·
  refine .sr<|.yv (.eql Z Z) Z<|.a Z Z<|.nt<|.cd Z (fun h27 => ?_) (fun h27 => ?_)
  ·skip
   exact .sk<|.tN<|.me _ ⟨rfl,trivial⟩ ⟨rfl,rfl,rfl,trivial⟩ (fun _ s => s) (by rw [Bool.eq_iff_iff];simp only [decide_eq_true_eq,← UInt8.toNat_inj,show (UInt8.toNat 6) = 6 from Z,show (UInt8.toNat 7) = 7 from Z];(try simp only [decide_eq_true_eq,decide_eq_false_iff_not] at *);omega)
  skip
  exact .rg<|.yv (.eql Z Z) Z<|.a Z Z<|.nt<|.me _ ⟨rfl,trivial⟩ ⟨rfl,rfl,rfl,trivial⟩ (fun _ s => s) (by rw [Bool.eq_iff_iff];simp only [decide_eq_true_eq,← UInt8.toNat_inj,show (UInt8.toNat 6) = 6 from Z,show (UInt8.toNat 7) = 7 from Z];(try simp only [decide_eq_true_eq,decide_eq_false_iff_not] at *);omega)
 have e3 := hC
 refine .cd Z (fun h27 => ?_) (fun h27 => ?_)
 ·have q3 : op = 6 ∨ op = 7 := by rw [h27] at e3;simpa using e3.symm
  have ht := shape_tx op
  have hn1 : (shapeOf op).n = 1 := by rcases q3 with rfl | rfl <;> decide
  have h0 : 0 < args.length := by omega
  obtain ⟨b0,o0,c0,hp0,r0,l0,m0⟩ := hs.elem (map_at h0)
  cases hp0
  have hf0 := lalls_at h0 hf2
  rw [text_mk,txt,if_neg e1,if_neg q2,if_pos q3,map_getD h0] at hl
  simp only [List.length_append,List.length_cons,List.length_nil] at hl
  refine .sq<|.fl (trip := [(_,_,_),(_,_,_),(_,_,_),(_,_,_),(_,_,_),(_,_,_),(_,_,_),(_,_,_),(_,_,_),(_,_,_),(_,_,_),(_,_,_),(_,_,_)]) 13 [(0,0),(1,0),(2,0),(3,0),(4,0),(5,0),(6,0),(7,0),(8,0),(9,0),(10,0),(11,0),(12,0)] (by kernel_rfl) (by kernel_rfl) Z<|.yv (.fieldAddr Z Fx.field180_3) Z<|.yv (.load Z Fx.agg9 (.head _) Z) Z<|.yv (.fieldAddr Z Fx.field60_1) Z<|.yv (.load Z Fx.agg9 (.tail _<|.head _) Z) Z<|.yv (.app Z Z (by (try simp only [List.length_append,List.length_cons,List.length_nil]);omega)) Z<|.yv (.app Z Z (by (try simp only [List.length_append,List.length_cons,List.length_nil]);omega)) Z<|.yv (.fieldAddr Z Fx.field60_3) Z<|.yv (.load Z Fx.agg58 (.tail _<|.head _) Z) Z<|.yv (.indexSl Fx.sl58 Z Z (i := 0) Z (by omega) (q := o0 + 0 * 4) Z) Z<|.yv (.loadMW Z Fx.agg60 m0 l0) Z<|.yv (.call Fx.call52 Z (fun W s => ih _ (List.getElem_mem h0) _ W r0 hf0 (by omega) s.agr)) Z<|.yv (.app Z Z (by (try simp only [List.length_append,List.length_cons,List.length_nil]);omega)) Z<|.yv (.app Z Z (by (try simp only [List.length_append,List.length_cons,List.length_nil]);omega)) Z<|.fn (tl := [_]) Z<|.a Z Z<|.nt<|.rt<|.bR<|.tR<|?_
  refine Sx.ret1 (.inl rfl) rfl (.tmp rfl) fun W s => ⟨?_,s.ext⟩
  first
   | (rw [text_mk,txt,if_pos e1] <;> rfl)
   | (rw [text_mk,txt,if_neg e1,if_pos q2] <;> rfl)
   | (rw [text_mk,txt,if_neg e1,if_neg q2,if_pos q3,map_getD h0] <;> rfl)
   | (rw [text_mk,txt,if_neg e1,if_neg q2,if_neg q3,if_pos q4,map_getD h0] <;> rfl)
   | (rw [text_mk,txt,if_neg e1,if_neg q2,if_neg q3,if_neg q4,if_pos q5] <;> rfl)
   | (rw [text_mk,txt,if_neg e1,if_neg q2,if_neg (not_or.2 q3),if_neg (not_or.2 q4),if_neg q5,map_getD h0,map_getD h1] <;> rfl)
 have q3 : ¬ (op = 6 ∨ op = 7) := by rw [h27] at e3;simpa using e3.symm
 refine .cu (X := Bool) [(1,_),(3,_)] ⟨rfl,rfl,trivial⟩ (fun z => [(43,.bool z)]) (fun z => H) (fun z => [.box b3 (shapeC (shapeOf op)) 180,.box b1 [.int .u8 op.toNat,strV nm,.int .i64 nn.toInt,.slice p args.length c] 60]) (fun z => z = decide (op = 9 ∨ op = 10)) ?_ fun z hC => ?_
 ·
  refine .sr<|.yv (.eql Z Z) Z<|.a Z Z<|.nt<|.cd Z (fun h43 => ?_) (fun h43 => ?_)
  ·skip
   exact .sk<|.tN<|.me _ ⟨rfl,trivial⟩ ⟨rfl,rfl,trivial⟩ (fun _ s => s) (by rw [Bool.eq_iff_iff];simp only [decide_eq_true_eq,← UInt8.toNat_inj,show (UInt8.toNat 9) = 9 from Z,show (UInt8.toNat 10) = 10 from Z];(try simp only [decide_eq_true_eq,decide_eq_false_iff_not] at *);omega)
  skip
  exact .rg<|.yv (.eql Z Z) Z<|.a Z Z<|.nt<|.me _ ⟨rfl,trivial⟩ ⟨rfl,rfl,trivial⟩ (fun _ s => s) (by rw [Bool.eq_iff_iff];simp only [decide_eq_true_eq,← UInt8.toNat_inj,show (UInt8.toNat 9) = 9 from Z,show (UInt8.toNat 10) = 10 from Z];(try simp only [decide_eq_true_eq,decide_eq_false_iff_not] at *);omega)
 have e4 := hC
 refine .cd Z (fun h43 => ?_) (fun h43 => ?_)
 ·have q4 : op = 9 ∨ op = 10 := by rw [h43] at e4;simpa using e4.symm
  have ht := shape_tx op
  have hn1 : (shapeOf op).n = 1 := by rcases q4 with rfl | rfl <;> decide
  have h0 : 0 < args.length := by omega
  obtain ⟨b0,o0,c0,hp0,r0,l0,m0⟩ := hs.elem (map_at h0)
  cases hp0
  have hf0 := lalls_at h0 hf2
  rw [text_mk,txt,if_neg e1,if_neg q2,if_neg q3,if_pos q4,map_getD h0] at hl
  simp only [List.length_append] at hl
  have ho := opT_len (shapeOf op).lv ((shapeOf args[0].op).lv,args[0].text)
  dsimp only at ho
  refine .sq<|.fl (trip := [(_,_,_),(_,_,_),(_,_,_),(_,_,_),(_,_,_),(_,_,_),(_,_,_),(_,_,_),(_,_,_),(_,_,_)]) 10 [(0,0),(1,0),(2,0),(3,0),(4,0),(5,0),(6,0),(7,0),(8,0),(9,0)] (by kernel_rfl) (by kernel_rfl) Z<|.yv (.fieldAddr Z Fx.field180_3) Z<|.yv (.load Z Fx.agg9 (.head _) Z) Z<|.yv (.fieldAddr Z Fx.field60_3) Z<|.yv (.load Z Fx.agg58 (.tail _<|.head _) Z) Z<|.yv (.indexSl Fx.sl58 Z Z (i := 0) Z (by omega) (q := o0 + 0 * 4) Z) Z<|.yv (.loadMW Z Fx.agg60 m0 l0) Z<|.yv (.fieldAddr Z Fx.field180_2) Z<|.yv (.load Z Fx.agg3 (.head _) Z) Z<|.yv (.call Fx.call92 Z (fun W s => operand_any H G _ (ih _ (List.getElem_mem h0)) _ r0 hf0 (by omega) (shapeOf op).lv W s.agr)) Z<|.yv (.app Z Z (by (try simp only [List.length_append,List.length_cons,List.length_nil]);omega)) Z<|.fn (tl := [_]) Z<|.a Z Z<|.nt<|.rt<|.bR<|.tR<|?_
  refine Sx.ret1 (.inl rfl) rfl (.tmp rfl) fun W s => ⟨?_,s.ext⟩
  first
   | (rw [text_mk,txt,if_pos e1] <;> rfl)
   | (rw [text_mk,txt,if_neg e1,if_pos q2] <;> rfl)
   | (rw [text_mk,txt,if_neg e1,if_neg q2,if_pos q3,map_getD h0] <;> rfl)
   | (rw [text_mk,txt,if_neg e1,if_neg q2,if_neg q3,if_pos q4,map_getD h0] <;> rfl)
   | (rw [text_mk,txt,if_neg e1,if_neg q2,if_neg q3,if_neg q4,if_pos q5] <;> rfl)
   | (rw [text_mk,txt,if_neg e1,if_neg q2,if_neg (not_or.2 q3),if_neg (not_or.2 q4),if_neg q5,map_getD h0,map_getD h1] <;> rfl)
 have q4 : ¬ (op = 9 ∨ op = 10) := by rw [h43] at e4;simpa using e4.symm
 refine .sk<|.bN<|.tN<|.sq<|.sr<|.yv (.fieldAddr Z Fx.field180_0) Z<|.yv (.load Z Fx.agg3 (.head _) Z) Z<|.yv (.eql Z Z) Z<|.nt<|.cd Z (fun h58 => ?_) (fun h58 => ?_)
 ·try simp only [dt] at h58
  have q5 : (shapeOf op).n = 0 := by omega
  refine .sr<|.yv (.fieldAddr Z Fx.field180_3) Z<|.yv (.load Z Fx.agg9 (.head _) Z) Z<|.a Z Z<|.nt<|.rt<|.tR<|?_
  refine Sx.ret1 (.inl rfl) rfl (.tmp rfl) fun W s => ⟨?_,s.ext⟩
  first
   | (rw [text_mk,txt,if_pos e1] <;> rfl)
   | (rw [text_mk,txt,if_neg e1,if_pos q2] <;> rfl)
   | (rw [text_mk,txt,if_neg e1,if_neg q2,if_pos q3,map_getD h0] <;> rfl)
   | (rw [text_mk,txt,if_neg e1,if_neg q2,if_neg q3,if_pos q4,map_getD h0] <;> rfl)
   | (rw [text_mk,txt,if_neg e1,if_neg q2,if_neg q3,if_neg q4,if_pos q5] <;> rfl)
   | (rw [text_mk,txt,if_neg e1,if_neg q2,if_neg (not_or.2 q3),if_neg (not_or.2 q4),if_neg q5,map_getD h0,map_getD h1] <;> rfl)
 try simp only [df] at h58
 have q5 : ¬ (shapeOf op).n = 0 := by omega
 have ht := shape_tx op
 have hlv := shape_lv op
 simp only [not_or] at q3 q4
 have hn2 : (shapeOf op).n = 2 := (shape_n hok q3.1 q3.2 q4.1 q4.2).resolve_left q5
 have h0 : 0 < args.length := by omega
 obtain ⟨b0,o0,c0,hp0,r0,l0,m0⟩ := hs.elem (map_at h0)
 cases hp0
 have hf0 := lalls_at h0 hf2
 have h1 : 1 < args.length := by omega
 obtain ⟨b1x,o1,c1,hp1,r1,l1,m1⟩ := hs.elem (map_at h1)
 cases hp1
 have hf1 := lalls_at h1 hf2
 rw [text_mk,txt,if_neg e1,if_neg q2,if_neg (not_or.2 q3),if_neg (not_or.2 q4),if_neg q5,map_getD h0,map_getD h1] at hl
 simp only [List.length_append] at hl
 have ho := opT_len (lftT (shapeOf op).lv) ((shapeOf args[0].op).lv,args[0].text)
 have ho1 := opT_len ((shapeOf op).lv + 1) ((shapeOf args[1].op).lv,args[1].text)
 dsimp only at ho ho1
 refine .sk<|.tN<|.sr<|.yv (.fieldAddr Z Fx.field180_2) Z<|.yv (.load Z Fx.agg3 (.head _) Z) Z<|.a Z Z<|.nt<|.cu (X := Unit) [(1,_),(3,_)] ⟨rfl,rfl,trivial⟩ (fun z => [(5,.int .i64 (lftT (shapeOf op).lv : Nat))]) (fun z => H) (fun z => [.box b3 (shapeC (shapeOf op)) 180,.box b1 [.int .u8 op.toNat,strV nm,.int .i64 nn.toInt,.slice (some ⟨b0,o0,none⟩) args.length c] 60]) (fun z => True) ?_ fun z hC => ?_
 ·
  refine .sr<|.m Z Z<|.yv (.eql Z Z) Z<|.nt<|.cd Z (fun h64 => ?_) (fun h64 => ?_)
  ·try simp only [dt] at h64
   exact .rg<|.m Z Z<|.yv (.add Z Z (w6 (by omega))) Z<|.a Z Z<|.nt<|.me () ⟨(by first | (rw [lftT,if_pos (by omega)];rfl) | (rw [lftT,if_neg (by omega)];rfl)),trivial⟩ ⟨rfl,rfl,trivial⟩ (fun _ s => s) trivial
  try simp only [df] at h64
  exact .sk<|.tN<|.me () ⟨(by first | (rw [lftT,if_pos (by omega)];rfl) | (rw [lftT,if_neg (by omega)];rfl)),trivial⟩ ⟨rfl,rfl,trivial⟩ (fun _ s => s) trivial
 refine .sq<|.fl (trip := [(_,_,_),(_,_,_),(_,_,_),(_,_,_),(_,_,_),(_,_,_),(_,_,_),(_,_,_),(_,_,_),(_,_,_),(_,_,_),(_,_,_),(_,_,_),(_,_,_),(_,_,_),(_,_,_),(_,_,_),(_,_,_)]) 18 [(0,0),(1,0),(2,0),(3,0),(4,0),(5,0),(6,0),(7,0),(8,0),(9,0),(10,0),(11,0),(12,0),(13,0),(14,0),(15,0),(16,0),(17,0)] (by kernel_rfl) (by kernel_rfl) Z<|.yv (.fieldAddr Z Fx.field60_3) Z<|.yv (.load Z Fx.agg58 (.tail _<|.head _) Z) Z<|.yv (.indexSl Fx.sl58 Z Z (i := 0) Z (by omega) (q := o0 + 0 * 4) Z) Z<|.yv (.loadMW Z Fx.agg60 m0 l0) Z<|.m Z Z<|.yv (.call Fx.call92 Z (fun W s => operand_any H G _ (ih _ (List.getElem_mem h0)) _ r0 hf0 (by omega) (lftT (shapeOf op).lv) W s.agr)) Z<|.yv (.fieldAddr Z Fx.field180_3) Z<|.yv (.load Z Fx.agg9 (.head _) Z) Z<|.yv (.app Z Z (by (try simp only [List.length_append,List.length_cons,List.length_nil]);omega)) Z<|.yv (.fieldAddr Z Fx.field60_3) Z<|.yv (.load Z Fx.agg58 (.tail _<|.head _) Z) Z<|.yv (.indexSl Fx.sl58 Z Z (i := 1) Z (by omega) (q := o0 + 1 * 4) Z) Z<|.yv (.loadMW Z Fx.agg60 m1 l1) Z<|.yv (.fieldAddr Z Fx.field180_2) Z<|.yv (.load Z Fx.agg3 (.head _) Z) Z<|.yv (.add Z Z (w6 (by omega))) Z<|.yv (.call Fx.call92 Z (fun W s => operand_any H G _ (ih _ (List.getElem_mem h1)) _ r1 hf1 (by omega) ((shapeOf op).lv + 1) W s.agr)) Z<|.yv (.app Z Z (by (try simp only [List.length_append,List.length_cons,List.length_nil]);omega)) Z<|.fn (tl := [_]) Z<|.a Z Z<|.nt<|.rt<|?_
 refine Sx.ret1 (.inl rfl) rfl (.tmp rfl) fun W s => ⟨?_,s.ext⟩
 first
  | (rw [text_mk,txt,if_pos e1] <;> rfl)
  | (rw [text_mk,txt,if_neg e1,if_pos q2] <;> rfl)
  | (rw [text_mk,txt,if_neg e1,if_neg q2,if_pos q3,map_getD h0] <;> rfl)
  | (rw [text_mk,txt,if_neg e1,if_neg q2,if_neg q3,if_pos q4,map_getD h0] <;> rfl)
  | (rw [text_mk,txt,if_neg e1,if_neg q2,if_neg q3,if_neg q4,if_pos q5] <;> rfl)
  | (rw [text_mk,txt,if_neg e1,if_neg q2,if_neg (not_or.2 q3),if_neg (not_or.2 q4),if_neg q5,map_getD h0,map_getD h1] <;> rfl)
theorem Fx.agg22 : aggN Tryz.prog 22 = Option.some Option.none := by kernel_rfl
theorem Fx.agg108 : aggN Tryz.prog 108 = Option.some Option.none := by kernel_rfl
theorem Fx.byt22 : byteN Tryz.prog 22 = Option.some 5 := by kernel_rfl
theorem Fx.call108 : callN Tryz.prog 108 = Bool.true := by kernel_rfl
theorem Fx.field110_0 : fieldN Tryz.prog 110 0 = Option.some 0 := by kernel_rfl
theorem Fx.field110_1 : fieldN Tryz.prog 110 1 = Option.some 1 := by kernel_rfl
theorem Fx.ptr108 : ptrN Tryz.prog 108 = Option.some 110 := by kernel_rfl
theorem Fx.pts108 : ptrS Tryz.prog 108 = Option.some (110,2) := by kernel_rfl
theorem Fx.pts163 : ptrS Tryz.prog 163 = Option.some (5,1) := by kernel_rfl
theorem Fx.row22 : rowN Tryz.prog 22 = Option.some (5,1,1) := by kernel_rfl
theorem Fx.size22 : sizeN Tryz.prog 22 = Option.some 1 := by kernel_rfl
theorem Fx.size108 : sizeN Tryz.prog 108 = Option.some 1 := by kernel_rfl
theorem Fx.sl22 : slN Tryz.prog 22 = Option.some 1 := by kernel_rfl
theorem Fx.uns222 : unsN Tryz.prog 222 = Bool.true := by kernel_rfl
theorem Fx.bsl22_1 (x0 : Int) : bslN Tryz.prog 22 1 [(0,.int .u8 x0)] = some (5,[.int .u8 x0]) := by kernel_rfl
theorem noEscape_run (v : Value) (W : World) : (callFunc 127 [v].toArray).run Tryz.prog W = .ok (.value v) W := by
 rw [run_callFunc_extern Tryz.func127 (by kernel_rfl) (by kernel_rfl) (by kernel_rfl) (e := Extern.AbiNoEscape.same) (by kernel_rfl)]
 rw [show ([v].toArray : Array Value) = #[v] from rfl,Lib.run_noEscape]
 rfl
set_option maxRecDepth 100000 in
theorem copyCheck_st {H : Hp} {w0 W : World} {bs : List Res} {b : Nat} {a : Option Addr} {r i : Value} (s : St H w0 (.box b [.pointer a,r,i] 112 :: bs) W) (ha : a = none ∨ a = some ⟨b,0,none⟩) :
 Calls Tryz.prog 108 #[.pointer (some ⟨b,0,none⟩)] W fun e W' => ∃ _ : Unit,True ∧ e = .returned (.tuple #[]) ∧ St H w0 (.box b [.pointer (some ⟨b,0,none⟩),r,i] 112 :: bs) W' := by
 rcases ha with rfl | rfl
 ·refine Sx.enterS Tryz.func108 rfl Tryz.ntmps108 rfl s ?_
  refine .sr<|.m Z Z<|.yv (.nilCheck Z) Z<|.yv (.fieldAddr Z Fx.field110_0) Z<|.yv (.load Z Fx.agg108 (.head _) Z) Z<|.yv (.eqPn Fx.ptr108 Z Z) Z<|.nt<|.cT Z<|.rg<|.m Z Z<|.m Z Z<|.yv (.toU (m := 1) Fx.pts108 Fx.uns222 (.head _) (nb Z) Z) Z<|.yv (.ext Z (fun W => noEscape_run _ W)) Z<|.yv (.fromU Fx.uns222 Fx.pts108 (.head _) (by kernel_rfl) Z) Z<|.yv (.nilCheck Z) Z<|.yv (.fieldAddr Z Fx.field110_0) Z<|.st .head Z Z Fx.size108 Z (nb Z) Z<|.nl<|?_
  exact Sx.retN (.inr rfl) rfl .nil rfl fun W s => ⟨(),trivial,rfl,s⟩
 ·refine Sx.enterS Tryz.func108 rfl Tryz.ntmps108 rfl s ?_
  refine .sr<|.m Z Z<|.yv (.nilCheck Z) Z<|.yv (.fieldAddr Z Fx.field110_0) Z<|.yv (.load Z Fx.agg108 (.head _) Z) Z<|.yv (.eqPn Fx.ptr108 Z Z) Z<|.nt<|.cF Z<|.sr<|.m Z Z<|.yv (.nilCheck Z) Z<|.yv (.fieldAddr Z Fx.field110_0) Z<|.yv (.load Z Fx.agg108 (.head _) Z) Z<|.m Z Z<|.yv (.neqP Fx.ptr108 Z Z) Z<|.nt<|.cF Z<|.sk<|?_
  exact Sx.retN (.inr rfl) rfl .nil rfl fun W s => ⟨(),trivial,rfl,s⟩
set_option maxRecDepth 100000 in
theorem writeString_st {H : Hp} {w0 W : World} {bs : List Res} {b : Nat} {a : Option Addr} {r i : Value} {l : Str} (t : Str) (s : St H w0 (.box b [.pointer a,r,i] 112 :: .row 5 1 r l.length (l.map byteV) :: bs) W) (ha : a = none ∨ a = some ⟨b,0,none⟩) (hl : l.length + t.length ≤ 140737488355328) :
 Calls Tryz.prog 73 #[.pointer (some ⟨b,0,none⟩),strV t] W fun e W' => ∃ r',True ∧ e = .returned (.tuple #[.int .i64 (t.length : Nat),.nilIface]) ∧ St H w0 (.box b [.pointer (some ⟨b,0,none⟩),r',i] 112 :: .row 5 1 r' (l ++ t).length ((l ++ t).map byteV) :: bs) W' := by
 refine Sx.enterS Tryz.func73 rfl Tryz.ntmps73 rfl s ?_
 refine .sr<|.a Z Z<|.a Z Z<|.ns<|.m Z Z<|.cs (X := Unit) Fx.call108 Z (fun W s => copyCheck_st s ha) Z fun _ _ => .ns<|.m Z Z<|.m Z Z<|.yv (.nilCheck Z) Z<|.yv (.fieldAddr Z Fx.field110_1) Z<|.yv (.load Z Fx.agg22 (.head _) Z) Z<|.m Z Z<|.as (s0 := t) Fx.byt22 Fx.str9 Z (fun _ => .tail .head) Z (by omega) Z fun r2 => ?_
 refine .ra (.tail _ (.head _)) fun p2 c2 e2 => ?_
 subst e2
 refine .yv (.nilCheck Z) Z<|.yv (.fieldAddr Z Fx.field110_1) Z<|.st .head Z Z Fx.size22 Z (nb Z) Z<|.ns<|.m Z Z<|.yv (.lenS Fx.str9 Z) Z<|.a Z Z<|.a Z Z<|.nt<|.rt<|?_
 exact Sx.retN (.inl rfl) rfl (.cons (.tmp rfl) (.cons (.tmp rfl) .nil)) rfl fun W s => ⟨_,trivial,rfl,by simpa using s⟩
set_option maxRecDepth 100000 in
theorem writeByte_st {H : Hp} {w0 W : World} {bs : List Res} {b : Nat} {a : Option Addr} {r i : Value} {l : Str} (c : UInt8) (s : St H w0 (.box b [.pointer a,r,i] 112 :: .row 5 1 r l.length (l.map byteV) :: bs) W) (ha : a = none ∨ a = some ⟨b,0,none⟩) (hl : l.length + 1 ≤ 140737488355328) :
 Calls Tryz.prog 74 #[.pointer (some ⟨b,0,none⟩),byteV c] W fun e W' => ∃ r',True ∧ e = .returned .nilIface ∧ St H w0 (.box b [.pointer (some ⟨b,0,none⟩),r',i] 112 :: .row 5 1 r' (l ++ [c]).length ((l ++ [c]).map byteV) :: bs) W' := by
 refine Sx.enterS Tryz.func74 rfl Tryz.ntmps74 rfl s ?_
 refine .sr<|.a Z Z<|.ns<|.m Z Z<|.cs (X := Unit) Fx.call108 Z (fun W s => copyCheck_st s ha) Z fun _ _ => .ns<|.m Z Z<|.m Z Z<|.yv (.nilCheck Z) Z<|.yv (.fieldAddr Z Fx.field110_1) Z<|.yv (.load Z Fx.agg22 (.head _) Z) Z<|.m Z Z<|.bl Z (Fx.bsl22_1 _) Z fun b13 => .ap (news := [byteV c]) Fx.row22 Z (fun _ => .tail (.tail .head)) Z (.box (.head _) z0) Z (by simp [byteV,Value.oneCell']) (by simp [maxLen];omega) (by omega) Z fun r2 _ => ?_
 refine .ra (.tail _ (.tail _ (.head _))) fun p2 c2 e2 => ?_
 subst e2
 refine .yv (.nilCheck Z) Z<|.yv (.fieldAddr Z Fx.field110_1) Z<|.st (.tail<|.head) Z Z Fx.size22 Z (nb Z) Z<|.ns<|.a Z Z<|.nt<|.rt<|?_
 exact Sx.ret1 (.inl rfl) rfl (.tmp rfl) fun W s => ⟨_,trivial,rfl,by simpa using s.drop⟩
set_option maxRecDepth 100000 in
theorem string_st {H : Hp} {w0 W : World} {bs : List Res} {b g c : Nat} {a : Option Addr} {i : Value} {l : Str} (s : St H w0 (.box b [.pointer a,.slice (some ⟨g,0,none⟩) l.length c,i] 112 :: .row 5 1 (.slice (some ⟨g,0,none⟩) l.length c) l.length (l.map byteV) :: bs) W) (h0 : l ≠ []) (hc : l.length ≤ c) (hl : l.length ≤ 140737488355328) :
 Calls Tryz.prog 39 #[.pointer (some ⟨b,0,none⟩)] W fun e W' => ∃ _ : Unit,True ∧ e = .returned (strV l) ∧ St H w0 [] W' := by
 have hl0 : 0 < l.length := List.length_pos_iff.2 h0
 refine Sx.enterS Tryz.func39 rfl Tryz.ntmps39 rfl s ?_
 refine .sr<|.a Z Z<|.nt<|.sq<|.fl (trip := [(_,_,_),(_,_,_),(_,_,_),(_,_,_),(_,_,_),(_,_,_),(_,_,_),(_,_,_),(_,_,_),(_,_,_)]) 10 [(0,0),(1,0),(2,0),(3,0),(4,0),(5,0),(6,0),(7,0),(8,0),(9,0)] (by kernel_rfl) (by kernel_rfl) Z<|.m Z Z<|.yv (.nilCheck Z) Z<|.yv (.fieldAddr Z Fx.field110_1) Z<|.yv (.load Z Fx.agg22 (.head _) Z) Z<|.yv (.sliceData (by omega) Z) Z<|.m Z Z<|.yv (.nilCheck Z) Z<|.yv (.fieldAddr Z Fx.field110_1) Z<|.yv (.load Z Fx.agg22 (.head _) Z) Z<|.yv (.lenSl Fx.sl22 Z) Z<|.fn (tl := [_,_]) Z<|.us Fx.pts163 (by kernel_rfl) (.tail _ (.head _)) h0 (by omega) Z Z Z Z<|.a Z Z<|.nt<|.rt<|?_
 exact Sx.ret1 (.inl rfl) rfl (.tmp rfl) fun W s => ⟨(),trivial,rfl,s⟩
def spT : Nat → Str
 | 0 => []
 | k + 1 => spT k ++ [32,32]
def lineT (ind : Nat) (parts : List Str) : Str := spT ind ++ parts.flatten ++ [10]
theorem spT_len (k : Nat) : (spT k).length = 2 * k := by
 induction k with
 | zero => rfl
 | succ k ih => simp [spT,ih];omega
theorem flat_succ {l : List Str} {k : Nat} (h : k < l.length) : (l.take (k + 1)).flatten = (l.take k).flatten ++ l[k] := by
 rw [take_snoc h,List.flatten_append];simp
theorem flat_take_len (l : List Str) (k : Nat) : (l.take k).flatten.length ≤ l.flatten.length := by
 have := congrArg (fun m : List Str => m.flatten.length) (List.take_append_drop k l)
 simp only [List.flatten_append,List.length_append] at this
 omega
theorem Fx.call73 : callN Tryz.prog 73 = Bool.true := by kernel_rfl
theorem Fx.call74 : callN Tryz.prog 74 = Bool.true := by kernel_rfl
theorem Fx.field112_0 : fieldN Tryz.prog 112 0 = Option.some 0 := by kernel_rfl
theorem Fx.field112_1 : fieldN Tryz.prog 112 1 = Option.some 2 := by kernel_rfl
set_option maxRecDepth 100000 in
theorem line_st {H : Hp} {w0 W : World} {bs : List Res} {b bp : Nat} {a : Option Addr} {r : Value} {ind : Nat} {l : Str} {parts : List Str} (s : St H w0 (.box b [.pointer a,r,.int .i64 (ind : Nat)] 112 :: .row 5 1 r l.length (l.map byteV) :: .box bp (parts.map strV) 9 :: bs) W) (ha : a = none ∨ a = some ⟨b,0,none⟩) (hp : parts.length ≤ 1000) (hl : l.length + 2 * ind + parts.flatten.length + 1 ≤ 100000000000000) :
 Calls Tryz.prog 35 #[.pointer (some ⟨b,0,none⟩),.slice (some ⟨bp,0,none⟩) parts.length parts.length] W fun e W' => ∃ r',True ∧ e = .returned (.tuple #[]) ∧ St H w0 (.box b [.pointer (some ⟨b,0,none⟩),r',.int .i64 (ind : Nat)] 112 :: .row 5 1 r' (l ++ lineT ind parts).length ((l ++ lineT ind parts).map byteV) :: .box bp (parts.map strV) 9 :: bs) W' := by
 refine Sx.enterS Tryz.func35 rfl Tryz.ntmps35 rfl s ?_
 refine .sq<|.sr<|.m Z Z<|.yv (.nilCheck Z) Z<|.yv (.fieldAddr Z Fx.field112_1) Z<|.yv (.load Z Fx.agg3 (.head _) Z) Z<|.m Z Z<|.nt<|.bk<|.lp (X := Nat × Option Addr × Value) [(0,_),(1,_),(9,_)] ⟨rfl,rfl,rfl,trivial⟩ (.box bp (parts.map strV) 9 :: bs) (fun z => [(10,.int .i64 (z.1 : Nat))]) (fun z => H) (fun z => [.box b [.pointer z.2.1,z.2.2,.int .i64 (ind : Nat)] 112,.row 5 1 z.2.2 (l ++ spT z.1).length ((l ++ spT z.1).map byteV)]) (fun z => z.1 ≤ ind ∧ (z.2.1 = none ∨ z.2.1 = some ⟨b,0,none⟩)) (fun z => ind - z.1) (0,a,r) (fun _ s => by simpa [spT] using s) ⟨rfl,trivial⟩ ⟨by simp,ha⟩ fun z hC => ?_
 obtain ⟨k,a,r⟩ := z
 dsimp only at hC ⊢
 obtain ⟨hk,ha⟩ := hC
 have hsk := spT_len k
 have hsi := spT_len ind
 refine .sr<|.yv (.lss Z Z) Z<|.nt<|.sq<|.cd Z (fun h11 => ?_) (fun h11 => ?_)
 ·try simp only [dt] at h11
  exact .sk<|.tN<|.sq<|.bk<|.rg<|.m Z Z<|.yv (.nilCheck Z) Z<|.yv (.fieldAddr Z Fx.field112_0) Z<|.cs (X := Value) Fx.call73 Z (fun W s => writeString_st [32,32] s ha (by simp only [List.length_append,List.length_cons,List.length_nil];omega)) Z fun r2 _ => .nl<|.bN<|.tN<|.rg<|.yv (.add Z Z (w6 (by omega))) Z<|.m Z Z<|.nt<|.ag (x := (k,a,r)) (k + 1,some ⟨b,0,none⟩,r2) ⟨rfl,trivial⟩ ⟨rfl,rfl,rfl,trivial⟩ (fun _ s => by simpa [spT] using s) ⟨by dsimp only;omega,.inr Z⟩ (by dsimp only;omega)
 try simp only [df] at h11
 obtain rfl : k = ind := by omega
 refine .ex<|.tE<|.tE<|.bE<|.tN<|.sq<|.sr<|.m Z Z<|.yv (.lenSl Fx.sl66 Z) Z<|.m Z Z<|.nt<|.bk<|.lp (X := Nat × Option Addr × Value) [(0,_),(17,_),(18,_)] ⟨rfl,rfl,rfl,trivial⟩ (.box bp (parts.map strV) 9 :: bs) (fun z => [(19,.int .i64 (z.1 : Nat))]) (fun z => H) (fun z => [.box b [.pointer z.2.1,z.2.2,.int .i64 (k : Nat)] 112,.row 5 1 z.2.2 (l ++ spT k ++ (parts.take z.1).flatten).length ((l ++ spT k ++ (parts.take z.1).flatten).map byteV)]) (fun z => z.1 ≤ parts.length ∧ (z.2.1 = none ∨ z.2.1 = some ⟨b,0,none⟩)) (fun z => parts.length - z.1) (0,a,r) (fun _ s => by simpa using s) ⟨rfl,trivial⟩ ⟨by simp,ha⟩ fun z hC => ?_
 obtain ⟨j,a,r⟩ := z
 dsimp only at hC ⊢
 obtain ⟨hj,ha⟩ := hC
 have hfl := flat_take_len parts j
 refine .sr<|.yv (.lss Z Z) Z<|.nt<|.sq<|.cd Z (fun h20 => ?_) (fun h20 => ?_)
 ·try simp only [dt] at h20
  have hjl : j < parts.length := by omega
  have hf2 := flat_take_len parts (j + 1)
  rw [flat_succ hjl,List.length_append] at hf2
  exact .sk<|.tN<|.sq<|.bk<|.sr<|.yv (.indexSl Fx.sl66 Z Z Z (by omega) (q := j) (by omega)) Z<|.yv (.load (v := strV parts[j]) Z Fx.agg9 (.tail _<|.tail _<|.head _) (by rw [List.getElem?_map,List.getElem?_eq_getElem hjl];rfl)) Z<|.a Z Z<|.nt<|.rg<|.m Z Z<|.yv (.nilCheck Z) Z<|.yv (.fieldAddr Z Fx.field112_0) Z<|.m Z Z<|.cs (X := Value) Fx.call73 Z (fun W s => writeString_st parts[j] s ha (by simp only [List.length_append,List.length_cons,List.length_nil];omega)) Z fun r3 _ => .nl<|.bN<|.tN<|.rg<|.yv (.add Z Z (w6 (by omega))) Z<|.m Z Z<|.nt<|.ag (x := (j,a,r)) (j + 1,some ⟨b,0,none⟩,r3) ⟨rfl,trivial⟩ ⟨rfl,rfl,rfl,trivial⟩ (fun _ s => by dsimp only;rw [flat_succ hjl];simpa using s) ⟨by dsimp only;omega,.inr Z⟩ (by dsimp only;omega)
 try simp only [df] at h20
 obtain rfl : j = parts.length := by omega
 rw [List.take_length]
 refine .ex<|.tE<|.tE<|.bE<|.tN<|.rg<|.m Z Z<|.yv (.nilCheck Z) Z<|.yv (.fieldAddr Z Fx.field112_0) Z<|.cs (X := Value) Fx.call74 Z (fun W s => writeByte_st 10 s ha (by simp only [List.length_append,List.length_cons,List.length_nil];omega)) Z fun r4 _ => .nl<|?_
 exact Sx.retN (.inr rfl) rfl .nil rfl fun W s => ⟨_,trivial,rfl,by simpa [lineT] using s⟩
def joinT (l : List Str) : Str := Lib.join l [44,32]
def diskT (n : Nat) (first : Str) (noE : Bool) (E : Str) : Str := if noE then lineT n [first,[59]] else lineT n [first,[32,101,108,115,101,32,123]] ++ E ++ lineT n [[125]]
def stT (n : Nat) (kd : UInt8) (nm hd : Str) (es : List Str) (T : Str) (noE : Bool) (E : Str) : Str :=
 if kd = 1 then lineT n [nm,[32,61,32],es.getD 0 [],[59]]
 else if kd = 2 then lineT n [nm,[91],es.getD 0 [],[93,32,61,32],es.getD 1 [],[59]]
 else if kd = 3 then lineT n [[100,101,108,101,116,101,32],nm,[91],es.getD 0 [],[93,59]]
 else if kd = 4 then lineT n [[105,102,32],es.getD 0 [],[32,123]] ++ T ++ (if noE then [] else lineT n [[125,32,101,108,115,101,32,123]] ++ E) ++ lineT n [[125]]
 else if kd = 5 then lineT n [[119,104,105,108,101,32],es.getD 0 [],[32,123]] ++ T ++ lineT n [[125]]
 else if kd = 6 then lineT n [[115,101,110,100,32],nm,[46],hd,[40],joinT es,[41,59]]
 else if kd = 7 then lineT n [[97,102,116,101,114,32],es.getD 0 [],[32,100,111,32],hd,[40],joinT (es.drop 1),[41,59]]
 else if kd = 8 then diskT n ([115,116,111,114,101,32] ++ es.getD 0 [] ++ [32,61,32] ++ es.getD 1 []) noE E
 else if kd = 9 then diskT n ([102,101,116,99,104,32] ++ nm ++ [32,61,32] ++ es.getD 0 []) noE E
 else if kd = 10 then lineT n [[115,116,111,112,59]]
 else []
mutual
def Sm.text (n : Nat) : Sm → Str
 | .mk kd nm hd ex th el => stT n kd nm hd (ex.map Ex.text) (Sm.texts (n + 1) th) (decide (el.length = 0)) (Sm.texts (n + 1) el)
def Sm.texts (n : Nat) : List Sm → Str
 | [] => []
 | s :: r => Sm.text n s ++ Sm.texts n r
end
theorem stext_mk (n : Nat) (kd : UInt8) (nm hd : Str) (ex : List Ex) (th el : List Sm) : Sm.text n (.mk kd nm hd ex th el) = stT n kd nm hd (ex.map Ex.text) (Sm.texts (n + 1) th) (decide (el.length = 0)) (Sm.texts (n + 1) el) := by rw [Sm.text]
theorem stexts_app (n : Nat) (a b : List Sm) : Sm.texts n (a ++ b) = Sm.texts n a ++ Sm.texts n b := by
 induction a with
 | nil => simp [Sm.texts]
 | cons e r ih => simp only [List.cons_append,Sm.texts,ih,List.append_assoc]
theorem stexts_succ {n : Nat} {l : List Sm} {k : Nat} (h : k < l.length) : Sm.texts n (l.take (k + 1)) = Sm.texts n (l.take k) ++ Sm.text n l[k] := by
 rw [take_snoc h,stexts_app];simp [Sm.texts]
theorem stexts_take (n : Nat) (l : List Sm) (k : Nat) : (Sm.texts n (l.take k)).length ≤ (Sm.texts n l).length := by
 have := stexts_app n (l.take k) (l.drop k)
 rw [List.take_append_drop] at this
 rw [this,List.length_append];omega
def hdT (n : Nat) (h : Hd) : Str := lineT n [[111,110,32],h.nm,[40],joinT h.ps,[41,32,123]] ++ Sm.texts (n + 1) h.body ++ lineT n [[125]]
def hdsT (n : Nat) (l : List Hd) : Str := (l.map (hdT n)).flatten
def boolT (b : Bool) : Str := if b then [116,114,117,101] else [102,97,108,115,101]
def vrT (n : Nat) (v : Vr) : Str := if v.ty = 1 then lineT n [[118,97,114,32],v.nm,[58,32,105,110,116,32,61,32],Lib.itoa v.init.toInt,[59]] else if v.ty = 2 then lineT n [[118,97,114,32],v.nm,[58,32,98,111,111,108,32,61,32],boolT (decide (v.init.toInt = 1)),[59]] else if v.ty = 3 then lineT n [[118,97,114,32],v.nm,[58,32,116,97,98,108,101,59]] else []
def vsT (n : Nat) (i : Nat) (v : List Hd) : Str := if i = 0 then hdsT n v else lineT n [[118,101,114,115,105,111,110,32],Lib.itoa ((i + 1 : Nat) : Int),[32,123]] ++ hdsT (n + 1) v ++ lineT n [[125]]
def vssT (n : Nat) : Nat → List (List Hd) → Str
 | _,[] => []
 | i,v :: r => vsT n i v ++ vssT n (i + 1) r
def cpT (c : Cp) : Str := lineT 1 [[99,111,109,112,111,110,101,110,116,32],c.nm,[32,123]] ++ (c.vars.map (vrT 2)).flatten ++ vssT 2 0 c.vers ++ lineT 1 [[125]]
def fgT (f : Fg) : Str := lineT 1 [[102,108,97,103,32],f.nm,[32,61,32],boolT f.init,[59]]
def lkT (l : Lk) : Str := lineT 1 [[108,105,110,107,32],l.fr,[32,45,62,32],l.to,[32,108,97,116,101,110,99,121,32],Lib.itoa l.lat.toInt,[59]]
def ftT (f : Ft) : Str := lineT 0 [[102,108,101,101,116,32],f.nm,[32,123]] ++ (f.flags.map fgT).flatten ++ (f.links.map lkT).flatten ++ (f.comps.map cpT).flatten ++ lineT 0 [[125]]
theorem mflat_succ {α : Type} {g : α → Str} {l : List α} {k : Nat} (h : k < l.length) : ((l.take (k + 1)).map g).flatten = ((l.take k).map g).flatten ++ g l[k] := by
 rw [take_snoc h,List.map_append,List.flatten_append,List.map_cons,List.map_nil,List.flatten_cons,List.flatten_nil,List.append_nil]
theorem mflat_take {α : Type} {g : α → Str} (l : List α) (k : Nat) : ((l.take k).map g).flatten.length ≤ (l.map g).flatten.length := by
 have := flat_take_len (l.map g) k
 rwa [← List.map_take] at this
theorem vssT_app (n : Nat) : ∀ (a : List (List Hd)) (i : Nat) (b : List (List Hd)),vssT n i (a ++ b) = vssT n i a ++ vssT n (i + a.length) b
 | [],i,b => by simp [vssT]
 | v :: r,i,b => by
  simp only [List.cons_append,vssT,vssT_app n r (i + 1) b,List.append_assoc,List.length_cons]
  rw [show i + 1 + r.length = i + (r.length + 1) by omega]
theorem vssT_succ {n : Nat} {l : List (List Hd)} {k : Nat} (h : k < l.length) : vssT n 0 (l.take (k + 1)) = vssT n 0 (l.take k) ++ vsT n k l[k] := by
 rw [take_snoc h,vssT_app,List.length_take,Nat.min_eq_left (by omega)];simp [vssT]
theorem vssT_take (n : Nat) (l : List (List Hd)) (k : Nat) : (vssT n 0 (l.take k)).length ≤ (vssT n 0 l).length := by
 have := vssT_app n (l.take k) 0 (l.drop k)
 rw [List.take_append_drop] at this
 rw [this,List.length_append];omega
theorem itoa_len (n : Int64) : (Lib.itoa n.toInt).length ≤ 21 := Lib.itoa_length_le n.toInt (by have := n.le_toInt;omega) (by have := n.toInt_lt;omega)
theorem name_len {l : Str} (h : nameB l = true) : l.length ≤ 12 := by
 simp only [nameB,Bool.and_eq_true,decide_eq_true_eq,beq_iff_eq] at h
 obtain ⟨⟨_,h1⟩,h2⟩ := h
 unfold readK at h1 h2
 dsimp only at h1 h2
 split at h1
 ·split at h1
  ·simp at h1
  ·split at h1
   ·rename_i a b c
    simp only [a,b,c,if_true,Bool.false_eq_true,if_false] at h2
    omega
   ·simp at h1
 ·split at h1
  ·split at h1 <;> simp at h1
  ·split at h1 <;> simp at h1
theorem txt_len (op : UInt8) (nm : Str) (n : Int64) (ls : List (Nat × Str)) (A : Nat) (hA : 24 ≤ A) (hn : nm.length ≤ 12) (h : ∀ x ∈ ls,x.2.length ≤ A) : (txt op nm n ls).length ≤ 3 * A := by
 have hg : ∀ i,(ls.getD i (0,[])).2.length ≤ A := fun i => by
  rw [List.getD_eq_getElem?_getD]
  cases e : ls[i]? with
  | none => simp
  | some x => simpa using h x (List.mem_of_getElem? e)
 have h0 := hg 0
 have h1 := hg 1
 have ht := shape_tx op
 have hi := itoa_len n
 have o1 := opT_len (shapeOf op).lv (ls.getD 0 (0,[]))
 have o2 := opT_len (lftT (shapeOf op).lv) (ls.getD 0 (0,[]))
 have o3 := opT_len ((shapeOf op).lv + 1) (ls.getD 1 (0,[]))
 unfold txt
 split
 ·omega
 split
 ·simp only [List.length_append];omega
 split
 ·simp only [List.length_append,List.length_cons,List.length_nil];omega
 split
 ·simp only [List.length_append];omega
 split
 ·omega
 ·simp only [List.length_append];omega
theorem alls_mem {q : Ex → Bool} : ∀ {l : List Ex} {a : Ex},a ∈ l → Ex.alls q l = true → Ex.all q a = true
 | [],a,h,_ => by cases h
 | b :: r,a,h,k => by
  rw [Ex.alls,Bool.and_eq_true] at k
  rcases List.mem_cons.1 h with rfl | h
  ·exact k.1
  ·exact alls_mem h k.2
theorem nm_len {op : UInt8} {nm : Str} {n : Int64} {args : List Ex} (h1 : namE (.mk op nm n args) = true) (h2 : frmE (.mk op nm n args) = true) : nm.length ≤ 12 := by
 simp only [namE,Bool.or_eq_true,Bool.not_eq_true'] at h1
 simp only [frmE,Bool.and_eq_true,Bool.or_eq_true,decide_eq_true_eq] at h2
 rcases h1 with h1 | h1
 ·rcases h2.1.2 with h2 | h2
  ·rw [h1] at h2;cases h2
  ·simp [h2]
 ·exact name_len h1
theorem text_len (e : Ex) : ∀ d,e.depth ≤ d → Ex.all namE e = true → Ex.all frmE e = true → e.text.length ≤ 24 * 3 ^ d := by
 induction e using Ex.ind with | _ op nm n args ih
 intro d hd h1 h2
 rw [depth_mk] at hd
 rw [all_mk,Bool.and_eq_true] at h1 h2
 obtain ⟨d,rfl⟩ : ∃ k,d = k + 1 := ⟨d - 1,by omega⟩
 rw [text_mk,Nat.pow_succ,show 24 * (3 ^ d * 3) = 3 * (24 * 3 ^ d) by omega]
 have hp : 0 < 3 ^ d := Nat.pow_pos (by omega)
 refine txt_len _ _ _ _ _ (by omega) (nm_len h1.1 h2.1) fun x hx => ?_
 obtain ⟨a,ha,rfl⟩ := List.mem_map.1 hx
 have := deeps_mem ha
 exact ih a ha d (by omega) (alls_mem ha h1.2) (alls_mem ha h2.2)
theorem text_len8 {e : Ex} (h : e.depth ≤ 8) (h1 : Ex.all namE e = true) (h2 : Ex.all frmE e = true) : e.text.length ≤ 157464 := text_len e 8 h h1 h2
def tokS : Sm → Bool
 | .mk kd nm hd ex th el => frmS (.mk kd nm hd ex th el) && ex.all fun x => decide (x.text.length ≤ 1000000000)
theorem Fx.call35 : callN Tryz.prog 35 = Bool.true := by kernel_rfl
theorem Fx.call111 : callN Tryz.prog 111 = Bool.true := by kernel_rfl
theorem Fx.bsl66_1 (x0 : ByteArray) : bslN Tryz.prog 66 1 [(0,.string x0)] = some (9,[.string x0]) := by kernel_rfl
theorem Fx.bsl66_2 (x0 : ByteArray) (x1 : ByteArray) : bslN Tryz.prog 66 2 [(0,.string x0),(1,.string x1)] = some (9,[.string x0,.string x1]) := by kernel_rfl
theorem lineT_len (n : Nat) (l : List Str) : (lineT n l).length = 2 * n + l.flatten.length + 1 := by simp only [lineT,List.length_append,spT_len,List.length_cons,List.length_nil]
set_option maxRecDepth 100000 in
theorem line_w {H : Hp} {w0 W : World} {bs : List Res} {b : Nat} {a : Option Addr} {r : Value} {ind : Nat} {t : Str} {bp : Nat} {parts : List Str} (ha : (a = none ∨ a = some ⟨b,0,none⟩)) (hp : parts.length ≤ 1000) (hl : t.length + (lineT ind parts).length ≤ 100000000000000) (s : St H w0 (.box b [.pointer a,r,.int .i64 (ind : Nat)] 112 :: .row 5 1 r (t).length ((t).map byteV) :: .box bp (parts.map strV) 9 :: bs) W) :
 Calls Tryz.prog 35 #[.pointer (some ⟨b,0,none⟩),.slice (some ⟨bp,0,none⟩) parts.length parts.length] W fun e W' => ∃ r',True ∧ e = .returned (.tuple #[]) ∧ St H w0 (.box b [.pointer (some ⟨b,0,none⟩),r',.int .i64 (ind : Nat)] 112 :: .row 5 1 r' (t ++ lineT ind parts).length ((t ++ lineT ind parts).map byteV) :: .box bp (parts.map strV) 9 :: bs) W' :=
 line_st s ha hp (by rw [lineT_len] at hl;omega)
theorem join_W (W : World) (b o c : Nat) (xs : List Str) (h : ∀ (j : Nat) x,xs[j]? = some x → W.cell? ⟨b,o + j,none⟩ = some (strV x)) (hb : b < W.heap.size) (hN : xs.length ≤ 140737488355328) (hc : xs.length ≤ c) (hl : (joinT xs).length ≤ 140737488355328) :
 Calls Tryz.prog 110 #[.slice (some ⟨b,o,none⟩) xs.length c,strV [44,32]] W fun e w' => e = .returned (strV (joinT xs)) ∧ Ext W w' := by
 have e1 : ((xs.map fun l => (⟨l.toArray⟩ : ByteArray)).map (·.data.toList)) = xs := by simp [Function.comp_def]
 have h2 := Tryz.strings_Join b o c (xs.map fun l => (⟨l.toArray⟩ : ByteArray)) ⟨#[44,32]⟩ W (fun j x e => by
  rw [List.getElem?_map] at e
  cases e2 : xs[j]? with
  | none => rw [e2] at e;cases e
  | some y => rw [e2] at e;cases e;exact h j y e2) hb (by simpa using hN) (by simpa using hc) (by rw [e1];exact hl)
 rw [e1,List.length_map] at h2
 exact h2.mono fun e w' ⟨a,k⟩ => ⟨a,Ext.of_below k⟩
theorem join_own {H : Hp} {w0 W : World} {bs : List Res} {b : Nat} {T : TypeId} (xs : List Str) {n : Nat} (hn : xs.length = n) (s : St H w0 bs W) (hm : Res.box b (xs.map strV) T ∈ bs) (hN : xs.length ≤ 1000) (hl : (joinT xs).length ≤ 140737488355328) :
 Calls Tryz.prog 110 #[.slice (some ⟨b,0,none⟩) n n,strV [44,32]] W fun e w' => e = .returned (strV (joinT xs)) ∧ Ext W w' := by
 subst hn
 exact join_W W b 0 xs.length xs (fun j x e => (s.cell hm (by rw [Nat.zero_add,List.getElem?_map,e];rfl)).1) ((s.own _ hm).1.lt rfl).2 (by omega) (Nat.le_refl _) hl
theorem join_own1 {H : Hp} {w0 W : World} {bs : List Res} {b : Nat} {T : TypeId} (xs : List Str) {n : Nat} (hn : xs.length = n) (s : St H w0 bs W) (hm : Res.box b (xs.map strV) T ∈ bs) (hN : xs.length ≤ 1000) (hl : (joinT (xs.drop 1)).length ≤ 140737488355328) :
 Calls Tryz.prog 110 #[.slice (some (if n = 1 then ⟨b,0,none⟩ else ⟨b,0 + 1 * 1,none⟩)) (n - 1) (n - 1),strV [44,32]] W fun e w' => e = .returned (strV (joinT (xs.drop 1))) ∧ Ext W w' := by
 subst hn
 have e : (some (if xs.length = 1 then (⟨b,0,none⟩ : Addr) else ⟨b,0 + 1 * 1,none⟩)) = some ⟨b,if xs.length = 1 then 0 else 1,none⟩ := by split <;> rfl
 have h := join_W W b (if xs.length = 1 then 0 else 1) (xs.length - 1) (xs.drop 1) (fun j x e => (s.cell hm (by
  rw [List.getElem?_drop] at e
  have h1 : 1 + j < xs.length := (List.getElem?_eq_some_iff.1 e).1
  rw [if_neg (by omega),List.getElem?_map,e];rfl)).1) ((s.own _ hm).1.lt rfl).2 (by simp;omega) (by simp) hl
 rw [List.length_drop] at h
 rw [e];exact h
theorem strs_at {es : List Str} {i : Nat} (h : i < es.length) : (es.map strV)[i]? = some (strV (es.getD i [])) := by simp [h]
def BodyOf (H : Hp) (x : List Sm) : Prop := ∀ (p : Option Addr) (n c : Nat) (w0 W : World) (bs : List Res) (b : Nat) (a : Option Addr) (r : Value) (ind : Nat) (t : Str),Rep H (.seq 6 (x.map (dSm .u8))) [.slice p n c] → Sm.alls tokS x = true → (a = none ∨ a = some ⟨b,0,none⟩) → t.length + (Sm.texts (ind + 1) x).length ≤ 10000000000000 → ind ≤ 10000000000000 → St H w0 (.box b [.pointer a,r,.int .i64 (ind : Nat)] 112 :: .row 5 1 r (t).length ((t).map byteV) :: bs) W →
 Calls Tryz.prog 111 #[.pointer (some ⟨b,0,none⟩),.slice p n c] W fun e W' => ∃ z : Option Addr × Value,(z.1 = none ∨ z.1 = some ⟨b,0,none⟩) ∧ e = .returned (.tuple #[]) ∧ St H w0 (.box b [.pointer z.1,z.2,.int .i64 (ind : Nat)] 112 :: .row 5 1 z.2 (t ++ Sm.texts (ind + 1) x).length ((t ++ Sm.texts (ind + 1) x).map byteV) :: bs) W'
def StmOf (H : Hp) (x : Sm) : Prop := ∀ (cs : List Value) (w0 W : World) (bs : List Res) (b : Nat) (a : Option Addr) (r : Value) (ind : Nat) (t : Str),Rep H (dSm .u8 x) cs → Sm.all tokS x = true → (a = none ∨ a = some ⟨b,0,none⟩) → t.length + (Sm.text ind x).length ≤ 10000000000000 → ind ≤ 10000000000001 → St H w0 (.box b [.pointer a,r,.int .i64 (ind : Nat)] 112 :: .row 5 1 r (t).length ((t).map byteV) :: bs) W →
 Calls Tryz.prog 133 #[.pointer (some ⟨b,0,none⟩),.agg cs.toArray] W fun e W' => ∃ z : Option Addr × Value,(z.1 = none ∨ z.1 = some ⟨b,0,none⟩) ∧ e = .returned (.tuple #[]) ∧ St H w0 (.box b [.pointer z.1,z.2,.int .i64 (ind : Nat)] 112 :: .row 5 1 z.2 (t ++ Sm.text ind x).length ((t ++ Sm.text ind x).map byteV) :: bs) W'
set_option maxRecDepth 100000 in
theorem disk_any (H : Hp) (el : List Sm) (hel : BodyOf H el) (first : Str) (p : Option Addr) (c : Nat) (w0 W : World) (bs : List Res) (b : Nat) (a : Option Addr) (r : Value) (ind : Nat) (t : Str) (hs : Rep H (.seq 6 (el.map (dSm .u8))) [.slice p el.length c]) (hf : Sm.alls tokS el = true) (ha : (a = none ∨ a = some ⟨b,0,none⟩)) (hl : t.length + (diskT ind first (decide (el.length = 0)) (Sm.texts (ind + 1) el)).length ≤ 10000000000000) (hi : ind ≤ 10000000000000) (s : St H w0 (.box b [.pointer a,r,.int .i64 (ind : Nat)] 112 :: .row 5 1 r (t).length ((t).map byteV) :: bs) W) :
 Calls Tryz.prog 150 #[.pointer (some ⟨b,0,none⟩),strV first,.slice p el.length c] W fun e W' => ∃ z : Option Addr × Value,(z.1 = none ∨ z.1 = some ⟨b,0,none⟩) ∧ e = .returned (.tuple #[]) ∧ St H w0 (.box b [.pointer z.1,z.2,.int .i64 (ind : Nat)] 112 :: .row 5 1 z.2 (t ++ diskT ind first (decide (el.length = 0)) (Sm.texts (ind + 1) el)).length ((t ++ diskT ind first (decide (el.length = 0)) (Sm.texts (ind + 1) el)).map byteV) :: bs) W' := by
 have hcap := hs.cap
 refine Sx.enterS Tryz.func150 rfl Tryz.ntmps150 rfl s ?_
 refine .sq<|.sr<|.m Z Z<|.yv (.lenSl Fx.sl69 Z) Z<|.yv (.eql Z Z) Z<|.nt<|.cd Z (fun h8 => ?_) (fun h8 => ?_)
 ·try simp only [dt] at h8
  have q : el.length = 0 := by omega
  rw [diskT,if_pos (by simpa using q)] at hl
  refine .sr<|.m Z Z<|.m Z Z<|.bl Z (Fx.bsl66_2 _ _) Z fun b11 => .cs (X := Value) Fx.call35 Z (fun W s => line_w (parts := [first,[59]]) ha (nb Z) (by (try simp only [List.length_append]);omega) (s.pickT (hd := [_,_,_]) (tl := bs) (hd' := [_,_,_]) [1,2,0] Z Z)) Z fun r12 _ => .nt<|.rt<|.tR<|?_
  exact Sx.retN (.inl rfl) rfl .nil rfl fun W s => ⟨(_,_),(.inr rfl),rfl,by have s2 := (s.pickT (hd := [_,_,_]) (tl := bs) (hd' := [_,_]) [0,1] rfl rfl);(first | rw [diskT,if_pos (by simpa using q)] | rw [diskT,if_neg (by simpa using q)]);(try simp only [List.append_assoc] at s2 ⊢);(try simp only [List.cons_append] at s2 ⊢);(try simp only [List.nil_append] at s2 ⊢);(try simp only [List.append_nil] at s2 ⊢);exact s2⟩
 try simp only [df] at h8
 have q : ¬ el.length = 0 := by omega
 rw [diskT,if_neg (by simpa using q)] at hl
 simp only [List.length_append] at hl
 have hq := lineT_len ind [[125]]
 refine .sk<|.tN<|.sr<|.m Z Z<|.m Z Z<|.bl Z (Fx.bsl66_2 _ _) Z fun b15 => .cs (X := Value) Fx.call35 Z (fun W s => line_w (parts := [first,[32,101,108,115,101,32,123]]) ha (nb Z) (by (try simp only [List.length_append]);omega) (s.pickT (hd := [_,_,_]) (tl := bs) (hd' := [_,_,_]) [1,2,0] Z Z)) Z fun r16 _ => .ns<|.m Z Z<|.m Z Z<|.cs (X := Option Addr × Value) Fx.call111 Z (fun W s => hel _ _ _ _ _ _ _ _ _ _ _ hs hf (.inr Z) (by (try simp only [List.length_append]);omega) (by omega) (s.pickT (hd := [_,_,_]) (tl := bs) (hd' := [_,_]) [0,1] Z Z)) Z fun z19 hz19 => .nt<|.rg<|.m Z Z<|.bl Z (Fx.bsl66_1 _) Z fun b21 => .cs (X := Value) Fx.call35 Z (fun W s => line_w (parts := [[125]]) hz19 (nb Z) (by (try simp only [List.length_append]);omega) (s.pickT (hd := [_,_,_]) (tl := bs) (hd' := [_,_,_]) [1,2,0] Z Z)) Z fun r22 _ => .nl<|?_
 exact Sx.retN (.inr rfl) rfl .nil rfl fun W s => ⟨(_,_),(.inr rfl),rfl,by have s2 := (s.pickT (hd := [_,_,_]) (tl := bs) (hd' := [_,_]) [0,1] rfl rfl);(first | rw [diskT,if_pos (by simpa using q)] | rw [diskT,if_neg (by simpa using q)]);(try simp only [List.append_assoc] at s2 ⊢);(try simp only [List.cons_append] at s2 ⊢);(try simp only [List.nil_append] at s2 ⊢);(try simp only [List.append_nil] at s2 ⊢);exact s2⟩
theorem Fx.call110 : callN Tryz.prog 110 = Bool.true := by kernel_rfl
theorem Fx.call150 : callN Tryz.prog 150 = Bool.true := by kernel_rfl
theorem Fx.row66 : rowN Tryz.prog 66 = Option.some (9,1,16) := by kernel_rfl
theorem Fx.size9 : sizeN Tryz.prog 9 = Option.some 1 := by kernel_rfl
theorem Fx.zero9 : zeroN Tryz.prog 9 = Option.some [Go.Value.string { data := { toList := [] } }] := by kernel_rfl
theorem Fx.bsl66_3 (x0 : ByteArray) (x1 : ByteArray) (x2 : ByteArray) : bslN Tryz.prog 66 3 [(0,.string x0),(1,.string x1),(2,.string x2)] = some (9,[.string x0,.string x1,.string x2]) := by kernel_rfl
theorem Fx.bsl66_4 (x0 : ByteArray) (x1 : ByteArray) (x2 : ByteArray) (x3 : ByteArray) : bslN Tryz.prog 66 4 [(0,.string x0),(1,.string x1),(2,.string x2),(3,.string x3)] = some (9,[.string x0,.string x1,.string x2,.string x3]) := by kernel_rfl
theorem Fx.bsl66_5 (x0 : ByteArray) (x1 : ByteArray) (x2 : ByteArray) (x3 : ByteArray) (x4 : ByteArray) : bslN Tryz.prog 66 5 [(0,.string x0),(1,.string x1),(2,.string x2),(3,.string x3),(4,.string x4)] = some (9,[.string x0,.string x1,.string x2,.string x3,.string x4]) := by kernel_rfl
theorem Fx.bsl66_6 (x0 : ByteArray) (x1 : ByteArray) (x2 : ByteArray) (x3 : ByteArray) (x4 : ByteArray) (x5 : ByteArray) : bslN Tryz.prog 66 6 [(0,.string x0),(1,.string x1),(2,.string x2),(3,.string x3),(4,.string x4),(5,.string x5)] = some (9,[.string x0,.string x1,.string x2,.string x3,.string x4,.string x5]) := by kernel_rfl
theorem Fx.bsl66_7 (x0 : ByteArray) (x1 : ByteArray) (x2 : ByteArray) (x3 : ByteArray) (x4 : ByteArray) (x5 : ByteArray) (x6 : ByteArray) : bslN Tryz.prog 66 7 [(0,.string x0),(1,.string x1),(2,.string x2),(3,.string x3),(4,.string x4),(5,.string x5),(6,.string x6)] = some (9,[.string x0,.string x1,.string x2,.string x3,.string x4,.string x5,.string x6]) := by kernel_rfl
theorem set_fill {A : List Str} {n k : Nat} (hn : A.length = n) (hk : k < n) (v : Value) (hv : v = strV A[k]) : ((A.take k).map strV ++ List.replicate (n - k) (strV [])).set k v = (A.take (k + 1)).map strV ++ List.replicate (n - (k + 1)) (strV []) := by
 have e1 : ((A.take k).map strV).length = k := by rw [List.length_map,List.length_take];omega
 rw [List.set_append_right _ _ (by rw [e1];exact Nat.le_refl _),e1,Nat.sub_self]
 obtain ⟨m,hm⟩ : ∃ m,n - k = m + 1 := ⟨n - k - 1,by omega⟩
 rw [hm,List.replicate_succ,List.set_cons_zero,take_snoc (by omega),List.map_append,show n - (k + 1) = m by omega,hv]
 simp
theorem fill_all (A : List Str) (n : Nat) (hn : A.length = n) : (A.take n).map strV ++ List.replicate (n - n) (strV []) = A.map strV := by
 rw [← hn,List.take_length,Nat.sub_self,List.replicate_zero,List.append_nil]
theorem diskT_len (n : Nat) (first : Str) (q : Bool) (E : Str) : first.length ≤ (diskT n first q E).length ∧ 2 * n ≤ (diskT n first q E).length := by
 unfold diskT
 have h1 := lineT_len n [first,[59]]
 have h2 := lineT_len n [first,[32,101,108,115,101,32,123]]
 simp only [List.flatten_cons,List.length_append] at h1 h2
 split <;> (try simp only [List.length_append]) <;> omega
theorem frm_len {kd : UInt8} {nm hd : Str} {ex : List Ex} {th el : List Sm} (h : frmS (.mk kd nm hd ex th el) = true) : okKd kd = true ∧ (formOf kd).lo ≤ ex.length ∧ ex.length ≤ (formOf kd).hi ∧ Ex.alls frmE ex = true := by
 simp only [frmS,Bool.and_eq_true,decide_eq_true_eq] at h
 exact ⟨h.1.1.1.1.1.1.1,h.1.1.1.1.1.1.2,h.1.1.1.1.1.2,h.2⟩
theorem form_hi (kd : UInt8) : (formOf kd).hi ≤ 5 := by
 unfold formOf
 split
 ·rename_i h
  simp only [okKd,Bool.and_eq_true,decide_eq_true_eq] at h
  have key : ∀ i ∈ List.range 11,(forms.getD i ⟨false,false,0,0,false,false⟩).hi ≤ 5 := by decide
  exact key _ (List.mem_range.2 (by omega))
 ·simp
set_option maxRecDepth 100000 in
theorem statement_any (H : Hp) (G : Gl H) (g : Gt H) (x : Sm) (hth : BodyOf H x.th) (hel : BodyOf H x.el) : StmOf H x := by
 obtain ⟨kd,nm,hd,ex,th,el⟩ := x
 intro cs w0 W bs b a r ind t h hf ha hl hi s
 simp only [Sm.th,Sm.el] at hth hel
 obtain ⟨p,c,p1,c1,p2,c2,rfl,hs,hs1,hs2,hn1,hn2⟩ := sm_open h
 rw [sall_mk,Bool.and_eq_true,Bool.and_eq_true] at hf
 obtain ⟨⟨hf1,hf2⟩,hf3⟩ := hf
 rw [tokS,Bool.and_eq_true] at hf1
 obtain ⟨hfr0,hok2⟩ := hf1
 have hfr := frm_len hfr0
 have hhi := form_hi kd
 obtain ⟨hokd,_,_,hfx⟩ := id hfr
 have hx5 : ex.length ≤ 5 := by omega
 have hcap := hs.cap
 have hcap1 := hs1.cap
 have hcap2 := hs2.cap
 rw [stext_mk] at hl
 refine Sx.enterS Tryz.func133 rfl Tryz.ntmps133 rfl s ?_
 refine .sr<|.bx Z Z Z fun b3 => .ns<|.yv (.fieldAddr Z Fx.field71_3) Z<|.yv (.load Z Fx.agg58 (.head _) Z) Z<|.yv (.lenSl Fx.sl58 Z) Z<|.mk Fx.row66 Fx.zero9 Z Z Z Z (by omega) (by omega) Z fun b10 => .a Z Z<|.nt<|.sq<|.sr<|.yv (.fieldAddr Z Fx.field71_3) Z<|.yv (.load Z Fx.agg58 (.tail _<|.head _) Z) Z<|.yv (.lenSl Fx.sl58 Z) Z<|.m Z Z<|.nt<|.bk<|.lp (X := Nat) [(0,_),(3,_),(4,_),(12,_),(13,_)] ⟨rfl,rfl,rfl,rfl,rfl,trivial⟩ (_ :: _ :: _ :: bs) (fun k => [(14,.int .i64 (k : Nat))]) (fun k => H) (fun k => [.box b10 (((ex.map Ex.text).take k).map strV ++ List.replicate (ex.length - k) (strV [])) 9]) (fun k => k ≤ ex.length) (fun k => ex.length - k) 0 (fun _ s => s) ⟨rfl,trivial⟩ (by omega) fun k hC => ?_
 refine .sr<|.yv (.lss Z Z) Z<|.nt<|.sq<|.cd Z (fun h15 => ?_) (fun h15 => ?_)
 ·try simp only [dt] at h15
  have hk : k < ex.length := by omega
  obtain ⟨bE,oE,cE,hpE,rE,lE,mE⟩ := hs.elem (map_at hk)
  cases hpE
  have hd1 := lall_at hk hok2
  simp only [decide_eq_true_eq] at hd1
  have hf1 := lalls_at hk hfx
  exact .sk<|.tN<|.sq<|.bk<|.sr<|.m Z Z<|.yv (.indexSl Fx.sl58 Z Z Z (by omega) (q := oE + k * 4) Z) Z<|.yv (.loadMW Z Fx.agg60 mE lE) Z<|.al Fx.zero60 Z fun b6 => .a Z Z<|.sV .head Z Z Fx.size60 lE rE.one Z<|.nt<|.rg<|.m Z Z<|.m Z Z<|.yv (.loadW Z Fx.agg60 (.head _) lE) Z<|.yv (.call Fx.call52 Z (fun W s => text_any H G g _ cE W rE hf1 hd1 s.agr)) Z<|.yv (.indexSl Fx.sl66 Z Z Z (by omega) (q := k) (by omega)) Z<|.st (.tail<|.head) Z Z Fx.size9 Z (by simp;omega) (set_fill (by simp) hk _ (by simp))<|.nl<|.bN<|.tN<|.rg<|.yv (.add Z Z (w6 (by omega))) Z<|.m Z Z<|.nt<|.ag (k + 1) ⟨rfl,trivial⟩ ⟨rfl,rfl,rfl,rfl,rfl,trivial⟩ (fun _ s => s.drop) (by omega) (by omega)
 try simp only [df] at h15
 obtain rfl : k = ex.length := by omega
 rw [fill_all (ex.map Ex.text) ex.length (by simp)]
 refine .ex<|.tE<|.tE<|.bE<|.tN<|.sr<|.yv (.fieldAddr Z Fx.field71_0) Z<|.yv (.load Z Fx.agg67 (.tail _<|.head _) Z) Z<|.nt<|.bk<|.sr<|.yv (.eql Z Z) Z<|.a Z Z<|.nt<|.cd Z (fun h27 => ?_) (fun h27 => ?_)
 ·try simp only [dt] at h27
  have e1 : kd = 1 := UInt8.toNat_inj.1 (by show kd.toNat = 1;omega)
  have hlo : 1 ≤ ex.length := by have h5 := hfr.2.1;rw [e1] at h5;exact Nat.le_trans (by decide) h5
  rw [stT,if_pos e1] at hl
  try simp only [List.length_append] at hl
  refine .fl (trip := [(_,_,_),(_,_,_),(_,_,_),(_,_,_),(_,_,_),(_,_,_),(_,_,_)]) 7 [(0,0),(1,0),(2,0),(3,0),(4,0),(5,0),(6,1)] (by kernel_rfl) (by kernel_rfl) Z<|.m Z Z<|.yv (.fieldAddr Z Fx.field71_1) Z<|.yv (.load Z Fx.agg9 (.tail _<|.head _) Z) Z<|.m Z Z<|.yv (.indexSl Fx.sl66 Z Z (i := 0) Z (by omega) (q := 0) Z) Z<|.yv (.load (v := strV ((ex.map Ex.text).getD 0 [])) Z Fx.agg9 (.head _) (strs_at (by rw [List.length_map];omega))) Z<|.bl Z (Fx.bsl66_4 _ _ _ _) Z fun b35 => .fn (tl := [_]) Z<|.cs (X := Value) Fx.call35 Z (fun W s => line_w (parts := [nm,[32,61,32],(ex.map Ex.text).getD 0 [],[59]]) ha (nb Z) (by (try simp only [List.length_append]);omega) (s.pickT (hd := [_,_,_,_,_]) (tl := bs) (hd' := [_,_,_,_,_]) [3,4,0,1,2] Z Z)) Z fun r36 _ => .nl<|.bN<|?_
  exact Sx.retN (.inr rfl) rfl .nil rfl fun W s => ⟨(_,_),(.inr rfl),rfl,by have s2 := (s.pickT (hd := [_,_,_,_,_]) (tl := bs) (hd' := [_,_]) [0,1] rfl rfl);(first | rw [stext_mk,stT,if_pos e1] | rw [stext_mk,stT,if_neg n1,if_pos e2] | rw [stext_mk,stT,if_neg n1,if_neg n2,if_pos e3] | rw [stext_mk,stT,if_neg n1,if_neg n2,if_neg n3,if_pos e4,if_neg (by simpa using q)] | rw [stext_mk,stT,if_neg n1,if_neg n2,if_neg n3,if_pos e4,if_pos (by simpa using q)] | rw [stext_mk,stT,if_neg n1,if_neg n2,if_neg n3,if_neg n4,if_pos e5] | rw [stext_mk,stT,if_neg n1,if_neg n2,if_neg n3,if_neg n4,if_neg n5,if_pos e6] | rw [stext_mk,stT,if_neg n1,if_neg n2,if_neg n3,if_neg n4,if_neg n5,if_neg n6,if_pos e7] | rw [stext_mk,stT,if_neg n1,if_neg n2,if_neg n3,if_neg n4,if_neg n5,if_neg n6,if_neg n7,if_pos e8] | rw [stext_mk,stT,if_neg n1,if_neg n2,if_neg n3,if_neg n4,if_neg n5,if_neg n6,if_neg n7,if_neg n8,if_pos e9] | rw [stext_mk,stT,if_neg n1,if_neg n2,if_neg n3,if_neg n4,if_neg n5,if_neg n6,if_neg n7,if_neg n8,if_neg n9,if_pos e10]);(try simp only [List.append_assoc] at s2 ⊢);(try simp only [List.cons_append] at s2 ⊢);(try simp only [List.nil_append] at s2 ⊢);(try simp only [List.append_nil] at s2 ⊢);exact s2⟩
 try simp only [df] at h27
 have n1 : ¬ kd = 1 := fun e => h27 (by rw [e];rfl)
 refine .sr<|.yv (.eql Z Z) Z<|.a Z Z<|.nt<|.cd Z (fun h37 => ?_) (fun h37 => ?_)
 ·try simp only [dt] at h37
  have e2 : kd = 2 := UInt8.toNat_inj.1 (by show kd.toNat = 2;omega)
  have hlo : 2 ≤ ex.length := by have h5 := hfr.2.1;rw [e2] at h5;exact Nat.le_trans (by decide) h5
  rw [stT,if_neg n1,if_pos e2] at hl
  try simp only [List.length_append] at hl
  refine .fl (trip := [(_,_,_),(_,_,_),(_,_,_),(_,_,_),(_,_,_),(_,_,_),(_,_,_),(_,_,_),(_,_,_),(_,_,_)]) 10 [(0,0),(1,0),(2,0),(3,0),(4,0),(5,0),(6,0),(7,0),(8,0),(9,1)] (by kernel_rfl) (by kernel_rfl) Z<|.m Z Z<|.yv (.fieldAddr Z Fx.field71_1) Z<|.yv (.load Z Fx.agg9 (.tail _<|.head _) Z) Z<|.m Z Z<|.yv (.indexSl Fx.sl66 Z Z (i := 0) Z (by omega) (q := 0) Z) Z<|.yv (.load (v := strV ((ex.map Ex.text).getD 0 [])) Z Fx.agg9 (.head _) (strs_at (by rw [List.length_map];omega))) Z<|.m Z Z<|.yv (.indexSl Fx.sl66 Z Z (i := 1) Z (by omega) (q := 1) Z) Z<|.yv (.load (v := strV ((ex.map Ex.text).getD 1 [])) Z Fx.agg9 (.head _) (strs_at (by rw [List.length_map];omega))) Z<|.bl Z (Fx.bsl66_6 _ _ _ _ _ _) Z fun b48 => .fn (tl := [_]) Z<|.cs (X := Value) Fx.call35 Z (fun W s => line_w (parts := [nm,[91],(ex.map Ex.text).getD 0 [],[93,32,61,32],(ex.map Ex.text).getD 1 [],[59]]) ha (nb Z) (by (try simp only [List.length_append]);omega) (s.pickT (hd := [_,_,_,_,_]) (tl := bs) (hd' := [_,_,_,_,_]) [3,4,0,1,2] Z Z)) Z fun r49 _ => .nl<|.bN<|?_
  exact Sx.retN (.inr rfl) rfl .nil rfl fun W s => ⟨(_,_),(.inr rfl),rfl,by have s2 := (s.pickT (hd := [_,_,_,_,_]) (tl := bs) (hd' := [_,_]) [0,1] rfl rfl);(first | rw [stext_mk,stT,if_pos e1] | rw [stext_mk,stT,if_neg n1,if_pos e2] | rw [stext_mk,stT,if_neg n1,if_neg n2,if_pos e3] | rw [stext_mk,stT,if_neg n1,if_neg n2,if_neg n3,if_pos e4,if_neg (by simpa using q)] | rw [stext_mk,stT,if_neg n1,if_neg n2,if_neg n3,if_pos e4,if_pos (by simpa using q)] | rw [stext_mk,stT,if_neg n1,if_neg n2,if_neg n3,if_neg n4,if_pos e5] | rw [stext_mk,stT,if_neg n1,if_neg n2,if_neg n3,if_neg n4,if_neg n5,if_pos e6] | rw [stext_mk,stT,if_neg n1,if_neg n2,if_neg n3,if_neg n4,if_neg n5,if_neg n6,if_pos e7] | rw [stext_mk,stT,if_neg n1,if_neg n2,if_neg n3,if_neg n4,if_neg n5,if_neg n6,if_neg n7,if_pos e8] | rw [stext_mk,stT,if_neg n1,if_neg n2,if_neg n3,if_neg n4,if_neg n5,if_neg n6,if_neg n7,if_neg n8,if_pos e9] | rw [stext_mk,stT,if_neg n1,if_neg n2,if_neg n3,if_neg n4,if_neg n5,if_neg n6,if_neg n7,if_neg n8,if_neg n9,if_pos e10]);(try simp only [List.append_assoc] at s2 ⊢);(try simp only [List.cons_append] at s2 ⊢);(try simp only [List.nil_append] at s2 ⊢);(try simp only [List.append_nil] at s2 ⊢);exact s2⟩
 try simp only [df] at h37
 have n2 : ¬ kd = 2 := fun e => h37 (by rw [e];rfl)
 refine .sr<|.yv (.eql Z Z) Z<|.a Z Z<|.nt<|.cd Z (fun h50 => ?_) (fun h50 => ?_)
 ·try simp only [dt] at h50
  have e3 : kd = 3 := UInt8.toNat_inj.1 (by show kd.toNat = 3;omega)
  have hlo : 1 ≤ ex.length := by have h5 := hfr.2.1;rw [e3] at h5;exact Nat.le_trans (by decide) h5
  rw [stT,if_neg n1,if_neg n2,if_pos e3] at hl
  try simp only [List.length_append] at hl
  refine .fl (trip := [(_,_,_),(_,_,_),(_,_,_),(_,_,_),(_,_,_),(_,_,_),(_,_,_)]) 7 [(0,0),(1,0),(2,0),(3,0),(4,0),(5,0),(6,1)] (by kernel_rfl) (by kernel_rfl) Z<|.m Z Z<|.yv (.fieldAddr Z Fx.field71_1) Z<|.yv (.load Z Fx.agg9 (.tail _<|.head _) Z) Z<|.m Z Z<|.yv (.indexSl Fx.sl66 Z Z (i := 0) Z (by omega) (q := 0) Z) Z<|.yv (.load (v := strV ((ex.map Ex.text).getD 0 [])) Z Fx.agg9 (.head _) (strs_at (by rw [List.length_map];omega))) Z<|.bl Z (Fx.bsl66_5 _ _ _ _ _) Z fun b58 => .fn (tl := [_]) Z<|.cs (X := Value) Fx.call35 Z (fun W s => line_w (parts := [[100,101,108,101,116,101,32],nm,[91],(ex.map Ex.text).getD 0 [],[93,59]]) ha (nb Z) (by (try simp only [List.length_append]);omega) (s.pickT (hd := [_,_,_,_,_]) (tl := bs) (hd' := [_,_,_,_,_]) [3,4,0,1,2] Z Z)) Z fun r59 _ => .nl<|.bN<|?_
  exact Sx.retN (.inr rfl) rfl .nil rfl fun W s => ⟨(_,_),(.inr rfl),rfl,by have s2 := (s.pickT (hd := [_,_,_,_,_]) (tl := bs) (hd' := [_,_]) [0,1] rfl rfl);(first | rw [stext_mk,stT,if_pos e1] | rw [stext_mk,stT,if_neg n1,if_pos e2] | rw [stext_mk,stT,if_neg n1,if_neg n2,if_pos e3] | rw [stext_mk,stT,if_neg n1,if_neg n2,if_neg n3,if_pos e4,if_neg (by simpa using q)] | rw [stext_mk,stT,if_neg n1,if_neg n2,if_neg n3,if_pos e4,if_pos (by simpa using q)] | rw [stext_mk,stT,if_neg n1,if_neg n2,if_neg n3,if_neg n4,if_pos e5] | rw [stext_mk,stT,if_neg n1,if_neg n2,if_neg n3,if_neg n4,if_neg n5,if_pos e6] | rw [stext_mk,stT,if_neg n1,if_neg n2,if_neg n3,if_neg n4,if_neg n5,if_neg n6,if_pos e7] | rw [stext_mk,stT,if_neg n1,if_neg n2,if_neg n3,if_neg n4,if_neg n5,if_neg n6,if_neg n7,if_pos e8] | rw [stext_mk,stT,if_neg n1,if_neg n2,if_neg n3,if_neg n4,if_neg n5,if_neg n6,if_neg n7,if_neg n8,if_pos e9] | rw [stext_mk,stT,if_neg n1,if_neg n2,if_neg n3,if_neg n4,if_neg n5,if_neg n6,if_neg n7,if_neg n8,if_neg n9,if_pos e10]);(try simp only [List.append_assoc] at s2 ⊢);(try simp only [List.cons_append] at s2 ⊢);(try simp only [List.nil_append] at s2 ⊢);(try simp only [List.append_nil] at s2 ⊢);exact s2⟩
 try simp only [df] at h50
 have n3 : ¬ kd = 3 := fun e => h50 (by rw [e];rfl)
 refine .sr<|.yv (.eql Z Z) Z<|.a Z Z<|.nt<|.cd Z (fun h60 => ?_) (fun h60 => ?_)
 ·try simp only [dt] at h60
  have e4 : kd = 4 := UInt8.toNat_inj.1 (by show kd.toNat = 4;omega)
  have hlo : 1 ≤ ex.length := by have h5 := hfr.2.1;rw [e4] at h5;exact Nat.le_trans (by decide) h5
  rw [stT,if_neg n1,if_neg n2,if_neg n3,if_pos e4] at hl
  try simp only [List.length_append] at hl
  have hq := lineT_len ind [[125]]
  refine .sr<|.m Z Z<|.m Z Z<|.yv (.indexSl Fx.sl66 Z Z (i := 0) Z (by omega) (q := 0) Z) Z<|.yv (.load (v := strV ((ex.map Ex.text).getD 0 [])) Z Fx.agg9 (.head _) (strs_at (by rw [List.length_map];omega))) Z<|.bl Z (Fx.bsl66_3 _ _ _) Z fun b66 => .cs (X := Value) Fx.call35 Z (fun W s => line_w (parts := [[105,102,32],(ex.map Ex.text).getD 0 [],[32,123]]) ha (nb Z) (by (try simp only [List.length_append]);omega) (s.pickT (hd := [_,_,_,_,_]) (tl := bs) (hd' := [_,_,_,_,_]) [3,4,0,1,2] Z Z)) Z fun r67 _ => .ns<|.m Z Z<|.yv (.fieldAddr Z Fx.field71_4) Z<|.yv (.load Z Fx.agg69 (.tail _<|.tail _<|.tail _<|.tail _<|.head _) Z) Z<|.cs (X := Option Addr × Value) Fx.call111 Z (fun W s => hth _ _ _ _ _ _ _ _ _ _ _ hs1 hf2 (.inr Z) (by (try simp only [List.length_append]);omega) (by omega) (s.pickT (hd := [_,_,_,_,_]) (tl := bs) (hd' := [_,_,_,_]) [0,1,3,4] Z Z)) Z fun z71 hz71 => .nt<|.sq<|.sr<|.yv (.fieldAddr Z Fx.field71_5) Z<|.yv (.load Z Fx.agg69 (.tail _<|.tail _<|.tail _<|.head _) Z) Z<|.yv (.lenSl Fx.sl69 Z) Z<|.yv (.gtr Z Z) Z<|.nt<|.cd Z (fun h75 => ?_) (fun h75 => ?_)
  ·try simp only [dt] at h75
   have q : ¬ el.length = 0 := by omega
   rw [if_neg (by simpa using q)] at hl
   simp only [List.length_append] at hl
   refine .sr<|.m Z Z<|.bl Z (Fx.bsl66_1 _) Z fun b77 => .cs (X := Value) Fx.call35 Z (fun W s => line_w (parts := [[125,32,101,108,115,101,32,123]]) hz71 (nb Z) (by (try simp only [List.length_append]);omega) (s.pickT (hd := [_,_,_,_,_]) (tl := bs) (hd' := [_,_,_,_,_]) [1,2,0,3,4] Z Z)) Z fun r78 _ => .nt<|.rg<|.m Z Z<|.yv (.fieldAddr Z Fx.field71_5) Z<|.yv (.load Z Fx.agg69 (.tail _<|.tail _<|.tail _<|.tail _<|.head _) Z) Z<|.cs (X := Option Addr × Value) Fx.call111 Z (fun W s => hel _ _ _ _ _ _ _ _ _ _ _ hs2 hf3 (.inr Z) (by (try simp only [List.length_append]);omega) (by omega) (s.pickT (hd := [_,_,_,_,_]) (tl := bs) (hd' := [_,_,_,_]) [0,1,3,4] Z Z)) Z fun z82 hz82 => .nt<|.rg<|.m Z Z<|.bl Z (Fx.bsl66_1 _) Z fun b84 => .cs (X := Value) Fx.call35 Z (fun W s => line_w (parts := [[125]]) hz82 (nb Z) (by (try simp only [List.length_append]);omega) (s.pickT (hd := [_,_,_,_,_]) (tl := bs) (hd' := [_,_,_,_,_]) [1,2,0,3,4] Z Z)) Z fun r85 _ => .nl<|.bN<|?_
   exact Sx.retN (.inr rfl) rfl .nil rfl fun W s => ⟨(_,_),(.inr rfl),rfl,by have s2 := (s.pickT (hd := [_,_,_,_,_]) (tl := bs) (hd' := [_,_]) [0,1] rfl rfl);(first | rw [stext_mk,stT,if_pos e1] | rw [stext_mk,stT,if_neg n1,if_pos e2] | rw [stext_mk,stT,if_neg n1,if_neg n2,if_pos e3] | rw [stext_mk,stT,if_neg n1,if_neg n2,if_neg n3,if_pos e4,if_neg (by simpa using q)] | rw [stext_mk,stT,if_neg n1,if_neg n2,if_neg n3,if_pos e4,if_pos (by simpa using q)] | rw [stext_mk,stT,if_neg n1,if_neg n2,if_neg n3,if_neg n4,if_pos e5] | rw [stext_mk,stT,if_neg n1,if_neg n2,if_neg n3,if_neg n4,if_neg n5,if_pos e6] | rw [stext_mk,stT,if_neg n1,if_neg n2,if_neg n3,if_neg n4,if_neg n5,if_neg n6,if_pos e7] | rw [stext_mk,stT,if_neg n1,if_neg n2,if_neg n3,if_neg n4,if_neg n5,if_neg n6,if_neg n7,if_pos e8] | rw [stext_mk,stT,if_neg n1,if_neg n2,if_neg n3,if_neg n4,if_neg n5,if_neg n6,if_neg n7,if_neg n8,if_pos e9] | rw [stext_mk,stT,if_neg n1,if_neg n2,if_neg n3,if_neg n4,if_neg n5,if_neg n6,if_neg n7,if_neg n8,if_neg n9,if_pos e10]);(try simp only [List.append_assoc] at s2 ⊢);(try simp only [List.cons_append] at s2 ⊢);(try simp only [List.nil_append] at s2 ⊢);(try simp only [List.append_nil] at s2 ⊢);exact s2⟩
  try simp only [df] at h75
  have q : el.length = 0 := by omega
  rw [if_pos (by simpa using q)] at hl
  refine .sk<|.tN<|.rg<|.m Z Z<|.bl Z (Fx.bsl66_1 _) Z fun b84 => .cs (X := Value) Fx.call35 Z (fun W s => line_w (parts := [[125]]) hz71 (nb Z) (by (try simp only [List.length_append]);omega) (s.pickT (hd := [_,_,_,_,_]) (tl := bs) (hd' := [_,_,_,_,_]) [1,2,0,3,4] Z Z)) Z fun r85 _ => .nl<|.bN<|?_
  exact Sx.retN (.inr rfl) rfl .nil rfl fun W s => ⟨(_,_),(.inr rfl),rfl,by have s2 := (s.pickT (hd := [_,_,_,_,_]) (tl := bs) (hd' := [_,_]) [0,1] rfl rfl);(first | rw [stext_mk,stT,if_pos e1] | rw [stext_mk,stT,if_neg n1,if_pos e2] | rw [stext_mk,stT,if_neg n1,if_neg n2,if_pos e3] | rw [stext_mk,stT,if_neg n1,if_neg n2,if_neg n3,if_pos e4,if_neg (by simpa using q)] | rw [stext_mk,stT,if_neg n1,if_neg n2,if_neg n3,if_pos e4,if_pos (by simpa using q)] | rw [stext_mk,stT,if_neg n1,if_neg n2,if_neg n3,if_neg n4,if_pos e5] | rw [stext_mk,stT,if_neg n1,if_neg n2,if_neg n3,if_neg n4,if_neg n5,if_pos e6] | rw [stext_mk,stT,if_neg n1,if_neg n2,if_neg n3,if_neg n4,if_neg n5,if_neg n6,if_pos e7] | rw [stext_mk,stT,if_neg n1,if_neg n2,if_neg n3,if_neg n4,if_neg n5,if_neg n6,if_neg n7,if_pos e8] | rw [stext_mk,stT,if_neg n1,if_neg n2,if_neg n3,if_neg n4,if_neg n5,if_neg n6,if_neg n7,if_neg n8,if_pos e9] | rw [stext_mk,stT,if_neg n1,if_neg n2,if_neg n3,if_neg n4,if_neg n5,if_neg n6,if_neg n7,if_neg n8,if_neg n9,if_pos e10]);(try simp only [List.append_assoc] at s2 ⊢);(try simp only [List.cons_append] at s2 ⊢);(try simp only [List.nil_append] at s2 ⊢);(try simp only [List.append_nil] at s2 ⊢);exact s2⟩
 try simp only [df] at h60
 have n4 : ¬ kd = 4 := fun e => h60 (by rw [e];rfl)
 refine .sr<|.yv (.eql Z Z) Z<|.a Z Z<|.nt<|.cd Z (fun h86 => ?_) (fun h86 => ?_)
 ·try simp only [dt] at h86
  have e5 : kd = 5 := UInt8.toNat_inj.1 (by show kd.toNat = 5;omega)
  have hlo : 1 ≤ ex.length := by have h5 := hfr.2.1;rw [e5] at h5;exact Nat.le_trans (by decide) h5
  rw [stT,if_neg n1,if_neg n2,if_neg n3,if_neg n4,if_pos e5] at hl
  try simp only [List.length_append] at hl
  have hq := lineT_len ind [[125]]
  refine .sr<|.m Z Z<|.m Z Z<|.yv (.indexSl Fx.sl66 Z Z (i := 0) Z (by omega) (q := 0) Z) Z<|.yv (.load (v := strV ((ex.map Ex.text).getD 0 [])) Z Fx.agg9 (.head _) (strs_at (by rw [List.length_map];omega))) Z<|.bl Z (Fx.bsl66_3 _ _ _) Z fun b92 => .cs (X := Value) Fx.call35 Z (fun W s => line_w (parts := [[119,104,105,108,101,32],(ex.map Ex.text).getD 0 [],[32,123]]) ha (nb Z) (by (try simp only [List.length_append]);omega) (s.pickT (hd := [_,_,_,_,_]) (tl := bs) (hd' := [_,_,_,_,_]) [3,4,0,1,2] Z Z)) Z fun r93 _ => .ns<|.m Z Z<|.yv (.fieldAddr Z Fx.field71_4) Z<|.yv (.load Z Fx.agg69 (.tail _<|.tail _<|.tail _<|.tail _<|.head _) Z) Z<|.cs (X := Option Addr × Value) Fx.call111 Z (fun W s => hth _ _ _ _ _ _ _ _ _ _ _ hs1 hf2 (.inr Z) (by (try simp only [List.length_append]);omega) (by omega) (s.pickT (hd := [_,_,_,_,_]) (tl := bs) (hd' := [_,_,_,_]) [0,1,3,4] Z Z)) Z fun z97 hz97 => .nt<|.rg<|.m Z Z<|.bl Z (Fx.bsl66_1 _) Z fun b99 => .cs (X := Value) Fx.call35 Z (fun W s => line_w (parts := [[125]]) hz97 (nb Z) (by (try simp only [List.length_append]);omega) (s.pickT (hd := [_,_,_,_,_]) (tl := bs) (hd' := [_,_,_,_,_]) [1,2,0,3,4] Z Z)) Z fun r100 _ => .nl<|.bN<|?_
  exact Sx.retN (.inr rfl) rfl .nil rfl fun W s => ⟨(_,_),(.inr rfl),rfl,by have s2 := (s.pickT (hd := [_,_,_,_,_]) (tl := bs) (hd' := [_,_]) [0,1] rfl rfl);(first | rw [stext_mk,stT,if_pos e1] | rw [stext_mk,stT,if_neg n1,if_pos e2] | rw [stext_mk,stT,if_neg n1,if_neg n2,if_pos e3] | rw [stext_mk,stT,if_neg n1,if_neg n2,if_neg n3,if_pos e4,if_neg (by simpa using q)] | rw [stext_mk,stT,if_neg n1,if_neg n2,if_neg n3,if_pos e4,if_pos (by simpa using q)] | rw [stext_mk,stT,if_neg n1,if_neg n2,if_neg n3,if_neg n4,if_pos e5] | rw [stext_mk,stT,if_neg n1,if_neg n2,if_neg n3,if_neg n4,if_neg n5,if_pos e6] | rw [stext_mk,stT,if_neg n1,if_neg n2,if_neg n3,if_neg n4,if_neg n5,if_neg n6,if_pos e7] | rw [stext_mk,stT,if_neg n1,if_neg n2,if_neg n3,if_neg n4,if_neg n5,if_neg n6,if_neg n7,if_pos e8] | rw [stext_mk,stT,if_neg n1,if_neg n2,if_neg n3,if_neg n4,if_neg n5,if_neg n6,if_neg n7,if_neg n8,if_pos e9] | rw [stext_mk,stT,if_neg n1,if_neg n2,if_neg n3,if_neg n4,if_neg n5,if_neg n6,if_neg n7,if_neg n8,if_neg n9,if_pos e10]);(try simp only [List.append_assoc] at s2 ⊢);(try simp only [List.cons_append] at s2 ⊢);(try simp only [List.nil_append] at s2 ⊢);(try simp only [List.append_nil] at s2 ⊢);exact s2⟩
 try simp only [df] at h86
 have n5 : ¬ kd = 5 := fun e => h86 (by rw [e];rfl)
 refine .sr<|.yv (.eql Z Z) Z<|.a Z Z<|.nt<|.cd Z (fun h101 => ?_) (fun h101 => ?_)
 ·try simp only [dt] at h101
  have e6 : kd = 6 := UInt8.toNat_inj.1 (by show kd.toNat = 6;omega)
  have hlo : 0 ≤ ex.length := by have h5 := hfr.2.1;rw [e6] at h5;exact Nat.le_trans (by decide) h5
  rw [stT,if_neg n1,if_neg n2,if_neg n3,if_neg n4,if_neg n5,if_pos e6] at hl
  try simp only [List.length_append] at hl
  have hq := lineT_len ind [[115,101,110,100,32],nm,[46],hd,[40],joinT (ex.map Ex.text),[41,59]]
  simp only [List.flatten_cons,List.length_append] at hq
  refine .fl (trip := [(_,_,_),(_,_,_),(_,_,_),(_,_,_),(_,_,_),(_,_,_),(_,_,_),(_,_,_)]) 8 [(0,0),(1,0),(2,0),(3,0),(4,0),(5,0),(6,0),(7,1)] (by kernel_rfl) (by kernel_rfl) Z<|.m Z Z<|.yv (.fieldAddr Z Fx.field71_1) Z<|.yv (.load Z Fx.agg9 (.tail _<|.head _) Z) Z<|.yv (.fieldAddr Z Fx.field71_2) Z<|.yv (.load Z Fx.agg9 (.tail _<|.head _) Z) Z<|.m Z Z<|.yv (.call Fx.call110 Z (fun W s => join_own (ex.map Ex.text) (by simp) s (.head _) (by simp;omega) (by omega))) Z<|.bl Z (Fx.bsl66_7 _ _ _ _ _ _ _) Z fun b110 => .fn (tl := [_]) Z<|.cs (X := Value) Fx.call35 Z (fun W s => line_w (parts := [[115,101,110,100,32],nm,[46],hd,[40],joinT (ex.map Ex.text),[41,59]]) ha (nb Z) (by (try simp only [List.length_append]);omega) (s.pickT (hd := [_,_,_,_,_]) (tl := bs) (hd' := [_,_,_,_,_]) [3,4,0,1,2] Z Z)) Z fun r111 _ => .nl<|.bN<|?_
  exact Sx.retN (.inr rfl) rfl .nil rfl fun W s => ⟨(_,_),(.inr rfl),rfl,by have s2 := (s.pickT (hd := [_,_,_,_,_]) (tl := bs) (hd' := [_,_]) [0,1] rfl rfl);(first | rw [stext_mk,stT,if_pos e1] | rw [stext_mk,stT,if_neg n1,if_pos e2] | rw [stext_mk,stT,if_neg n1,if_neg n2,if_pos e3] | rw [stext_mk,stT,if_neg n1,if_neg n2,if_neg n3,if_pos e4,if_neg (by simpa using q)] | rw [stext_mk,stT,if_neg n1,if_neg n2,if_neg n3,if_pos e4,if_pos (by simpa using q)] | rw [stext_mk,stT,if_neg n1,if_neg n2,if_neg n3,if_neg n4,if_pos e5] | rw [stext_mk,stT,if_neg n1,if_neg n2,if_neg n3,if_neg n4,if_neg n5,if_pos e6] | rw [stext_mk,stT,if_neg n1,if_neg n2,if_neg n3,if_neg n4,if_neg n5,if_neg n6,if_pos e7] | rw [stext_mk,stT,if_neg n1,if_neg n2,if_neg n3,if_neg n4,if_neg n5,if_neg n6,if_neg n7,if_pos e8] | rw [stext_mk,stT,if_neg n1,if_neg n2,if_neg n3,if_neg n4,if_neg n5,if_neg n6,if_neg n7,if_neg n8,if_pos e9] | rw [stext_mk,stT,if_neg n1,if_neg n2,if_neg n3,if_neg n4,if_neg n5,if_neg n6,if_neg n7,if_neg n8,if_neg n9,if_pos e10]);(try simp only [List.append_assoc] at s2 ⊢);(try simp only [List.cons_append] at s2 ⊢);(try simp only [List.nil_append] at s2 ⊢);(try simp only [List.append_nil] at s2 ⊢);exact s2⟩
 try simp only [df] at h101
 have n6 : ¬ kd = 6 := fun e => h101 (by rw [e];rfl)
 refine .sr<|.yv (.eql Z Z) Z<|.a Z Z<|.nt<|.cd Z (fun h112 => ?_) (fun h112 => ?_)
 ·try simp only [dt] at h112
  have e7 : kd = 7 := UInt8.toNat_inj.1 (by show kd.toNat = 7;omega)
  have hlo : 1 ≤ ex.length := by have h5 := hfr.2.1;rw [e7] at h5;exact Nat.le_trans (by decide) h5
  rw [stT,if_neg n1,if_neg n2,if_neg n3,if_neg n4,if_neg n5,if_neg n6,if_pos e7] at hl
  try simp only [List.length_append] at hl
  have hq := lineT_len ind [[97,102,116,101,114,32],(ex.map Ex.text).getD 0 [],[32,100,111,32],hd,[40],joinT ((ex.map Ex.text).drop 1),[41,59]]
  simp only [List.flatten_cons,List.length_append] at hq
  refine .fl (trip := [(_,_,_),(_,_,_),(_,_,_),(_,_,_),(_,_,_),(_,_,_),(_,_,_),(_,_,_),(_,_,_),(_,_,_)]) 10 [(0,0),(1,0),(2,0),(3,0),(4,0),(5,0),(6,0),(7,0),(8,0),(9,1)] (by kernel_rfl) (by kernel_rfl) Z<|.m Z Z<|.m Z Z<|.yv (.indexSl Fx.sl66 Z Z (i := 0) Z (by omega) (q := 0) Z) Z<|.yv (.load (v := strV ((ex.map Ex.text).getD 0 [])) Z Fx.agg9 (.head _) (strs_at (by rw [List.length_map];omega))) Z<|.yv (.fieldAddr Z Fx.field71_2) Z<|.yv (.load Z Fx.agg9 (.tail _<|.head _) Z) Z<|.m Z Z<|.yv (.cutLo Fx.sl66 Z Z (lo := 1) Z (by omega) (Nat.le_refl _)) Z<|.yv (.call Fx.call110 Z (fun W s => join_own1 (ex.map Ex.text) (by simp) s (.head _) (by simp;omega) (by omega))) Z<|.bl Z (Fx.bsl66_7 _ _ _ _ _ _ _) Z fun b123 => .fn (tl := [_]) Z<|.cs (X := Value) Fx.call35 Z (fun W s => line_w (parts := [[97,102,116,101,114,32],(ex.map Ex.text).getD 0 [],[32,100,111,32],hd,[40],joinT ((ex.map Ex.text).drop 1),[41,59]]) ha (nb Z) (by (try simp only [List.length_append]);omega) (s.pickT (hd := [_,_,_,_,_]) (tl := bs) (hd' := [_,_,_,_,_]) [3,4,0,1,2] Z Z)) Z fun r124 _ => .nl<|.bN<|?_
  exact Sx.retN (.inr rfl) rfl .nil rfl fun W s => ⟨(_,_),(.inr rfl),rfl,by have s2 := (s.pickT (hd := [_,_,_,_,_]) (tl := bs) (hd' := [_,_]) [0,1] rfl rfl);(first | rw [stext_mk,stT,if_pos e1] | rw [stext_mk,stT,if_neg n1,if_pos e2] | rw [stext_mk,stT,if_neg n1,if_neg n2,if_pos e3] | rw [stext_mk,stT,if_neg n1,if_neg n2,if_neg n3,if_pos e4,if_neg (by simpa using q)] | rw [stext_mk,stT,if_neg n1,if_neg n2,if_neg n3,if_pos e4,if_pos (by simpa using q)] | rw [stext_mk,stT,if_neg n1,if_neg n2,if_neg n3,if_neg n4,if_pos e5] | rw [stext_mk,stT,if_neg n1,if_neg n2,if_neg n3,if_neg n4,if_neg n5,if_pos e6] | rw [stext_mk,stT,if_neg n1,if_neg n2,if_neg n3,if_neg n4,if_neg n5,if_neg n6,if_pos e7] | rw [stext_mk,stT,if_neg n1,if_neg n2,if_neg n3,if_neg n4,if_neg n5,if_neg n6,if_neg n7,if_pos e8] | rw [stext_mk,stT,if_neg n1,if_neg n2,if_neg n3,if_neg n4,if_neg n5,if_neg n6,if_neg n7,if_neg n8,if_pos e9] | rw [stext_mk,stT,if_neg n1,if_neg n2,if_neg n3,if_neg n4,if_neg n5,if_neg n6,if_neg n7,if_neg n8,if_neg n9,if_pos e10]);(try simp only [List.append_assoc] at s2 ⊢);(try simp only [List.cons_append] at s2 ⊢);(try simp only [List.nil_append] at s2 ⊢);(try simp only [List.append_nil] at s2 ⊢);exact s2⟩
 try simp only [df] at h112
 have n7 : ¬ kd = 7 := fun e => h112 (by rw [e];rfl)
 refine .sr<|.yv (.eql Z Z) Z<|.a Z Z<|.nt<|.cd Z (fun h125 => ?_) (fun h125 => ?_)
 ·try simp only [dt] at h125
  have e8 : kd = 8 := UInt8.toNat_inj.1 (by show kd.toNat = 8;omega)
  have hlo : 2 ≤ ex.length := by have h5 := hfr.2.1;rw [e8] at h5;exact Nat.le_trans (by decide) h5
  rw [stT,if_neg n1,if_neg n2,if_neg n3,if_neg n4,if_neg n5,if_neg n6,if_neg n7,if_pos e8] at hl
  try simp only [List.length_append] at hl
  have hq := diskT_len ind ([115,116,111,114,101,32] ++ (ex.map Ex.text).getD 0 [] ++ [32,61,32] ++ (ex.map Ex.text).getD 1 []) (decide (el.length = 0)) (Sm.texts (ind + 1) el)
  simp only [List.length_append] at hq
  refine .fl (trip := [(_,_,_),(_,_,_),(_,_,_),(_,_,_),(_,_,_),(_,_,_),(_,_,_),(_,_,_),(_,_,_),(_,_,_),(_,_,_),(_,_,_)]) 12 [(0,0),(1,0),(2,0),(3,0),(4,0),(5,0),(6,0),(7,0),(8,0),(9,0),(10,0),(11,0)] (by kernel_rfl) (by kernel_rfl) Z<|.m Z Z<|.m Z Z<|.yv (.indexSl Fx.sl66 Z Z (i := 0) Z (by omega) (q := 0) Z) Z<|.yv (.load (v := strV ((ex.map Ex.text).getD 0 [])) Z Fx.agg9 (.head _) (strs_at (by rw [List.length_map];omega))) Z<|.yv (.app Z Z (by (try simp only [List.length_append]);(try simp only [List.length_cons,List.length_nil]);(try simp only [List.length_cons,List.length_nil] at hq);omega)) Z<|.yv (.app Z Z (by (try simp only [List.length_append]);(try simp only [List.length_cons,List.length_nil]);(try simp only [List.length_cons,List.length_nil] at hq);omega)) Z<|.m Z Z<|.yv (.indexSl Fx.sl66 Z Z (i := 1) Z (by omega) (q := 1) Z) Z<|.yv (.load (v := strV ((ex.map Ex.text).getD 1 [])) Z Fx.agg9 (.head _) (strs_at (by rw [List.length_map];omega))) Z<|.yv (.app Z Z (by (try simp only [List.length_append]);(try simp only [List.length_cons,List.length_nil]);(try simp only [List.length_cons,List.length_nil] at hq);omega)) Z<|.yv (.fieldAddr Z Fx.field71_5) Z<|.yv (.load Z Fx.agg69 (.tail _<|.head _) Z) Z<|.fn (tl := [_]) Z<|.cs (X := Option Addr × Value) Fx.call150 Z (fun W s => disk_any H el hel _ _ _ _ _ _ _ _ _ _ _ hs2 hf3 ha (by (try simp only [List.length_append]);omega) (by omega) (s.pickT (hd := [_,_,_,_]) (tl := bs) (hd' := [_,_,_,_]) [2,3,0,1] Z Z)) Z fun z139 hz139 => .nl<|.bN<|?_
  exact Sx.retN (.inr rfl) rfl .nil rfl fun W s => ⟨(_,_),hz139,rfl,by have s2 := (s.pickT (hd := [_,_,_,_]) (tl := bs) (hd' := [_,_]) [0,1] rfl rfl);(first | rw [stext_mk,stT,if_pos e1] | rw [stext_mk,stT,if_neg n1,if_pos e2] | rw [stext_mk,stT,if_neg n1,if_neg n2,if_pos e3] | rw [stext_mk,stT,if_neg n1,if_neg n2,if_neg n3,if_pos e4,if_neg (by simpa using q)] | rw [stext_mk,stT,if_neg n1,if_neg n2,if_neg n3,if_pos e4,if_pos (by simpa using q)] | rw [stext_mk,stT,if_neg n1,if_neg n2,if_neg n3,if_neg n4,if_pos e5] | rw [stext_mk,stT,if_neg n1,if_neg n2,if_neg n3,if_neg n4,if_neg n5,if_pos e6] | rw [stext_mk,stT,if_neg n1,if_neg n2,if_neg n3,if_neg n4,if_neg n5,if_neg n6,if_pos e7] | rw [stext_mk,stT,if_neg n1,if_neg n2,if_neg n3,if_neg n4,if_neg n5,if_neg n6,if_neg n7,if_pos e8] | rw [stext_mk,stT,if_neg n1,if_neg n2,if_neg n3,if_neg n4,if_neg n5,if_neg n6,if_neg n7,if_neg n8,if_pos e9] | rw [stext_mk,stT,if_neg n1,if_neg n2,if_neg n3,if_neg n4,if_neg n5,if_neg n6,if_neg n7,if_neg n8,if_neg n9,if_pos e10]);(try simp only [List.append_assoc] at s2 ⊢);(try simp only [List.cons_append] at s2 ⊢);(try simp only [List.nil_append] at s2 ⊢);(try simp only [List.append_nil] at s2 ⊢);exact s2⟩
 try simp only [df] at h125
 have n8 : ¬ kd = 8 := fun e => h125 (by rw [e];rfl)
 refine .sr<|.yv (.eql Z Z) Z<|.a Z Z<|.nt<|.cd Z (fun h140 => ?_) (fun h140 => ?_)
 ·try simp only [dt] at h140
  have e9 : kd = 9 := UInt8.toNat_inj.1 (by show kd.toNat = 9;omega)
  have hlo : 1 ≤ ex.length := by have h5 := hfr.2.1;rw [e9] at h5;exact Nat.le_trans (by decide) h5
  rw [stT,if_neg n1,if_neg n2,if_neg n3,if_neg n4,if_neg n5,if_neg n6,if_neg n7,if_neg n8,if_pos e9] at hl
  try simp only [List.length_append] at hl
  have hq := diskT_len ind ([102,101,116,99,104,32] ++ nm ++ [32,61,32] ++ (ex.map Ex.text).getD 0 []) (decide (el.length = 0)) (Sm.texts (ind + 1) el)
  simp only [List.length_append] at hq
  refine .fl (trip := [(_,_,_),(_,_,_),(_,_,_),(_,_,_),(_,_,_),(_,_,_),(_,_,_),(_,_,_),(_,_,_),(_,_,_),(_,_,_)]) 11 [(0,0),(1,0),(2,0),(3,0),(4,0),(5,0),(6,0),(7,0),(8,0),(9,0),(10,0)] (by kernel_rfl) (by kernel_rfl) Z<|.m Z Z<|.yv (.fieldAddr Z Fx.field71_1) Z<|.yv (.load Z Fx.agg9 (.tail _<|.head _) Z) Z<|.yv (.app Z Z (by (try simp only [List.length_append]);(try simp only [List.length_cons,List.length_nil]);(try simp only [List.length_cons,List.length_nil] at hq);omega)) Z<|.yv (.app Z Z (by (try simp only [List.length_append]);(try simp only [List.length_cons,List.length_nil]);(try simp only [List.length_cons,List.length_nil] at hq);omega)) Z<|.m Z Z<|.yv (.indexSl Fx.sl66 Z Z (i := 0) Z (by omega) (q := 0) Z) Z<|.yv (.load (v := strV ((ex.map Ex.text).getD 0 [])) Z Fx.agg9 (.head _) (strs_at (by rw [List.length_map];omega))) Z<|.yv (.app Z Z (by (try simp only [List.length_append]);(try simp only [List.length_cons,List.length_nil]);(try simp only [List.length_cons,List.length_nil] at hq);omega)) Z<|.yv (.fieldAddr Z Fx.field71_5) Z<|.yv (.load Z Fx.agg69 (.tail _<|.head _) Z) Z<|.fn (tl := [_]) Z<|.cs (X := Option Addr × Value) Fx.call150 Z (fun W s => disk_any H el hel _ _ _ _ _ _ _ _ _ _ _ hs2 hf3 ha (by (try simp only [List.length_append]);omega) (by omega) (s.pickT (hd := [_,_,_,_]) (tl := bs) (hd' := [_,_,_,_]) [2,3,0,1] Z Z)) Z fun z153 hz153 => .nl<|.bN<|?_
  exact Sx.retN (.inr rfl) rfl .nil rfl fun W s => ⟨(_,_),hz153,rfl,by have s2 := (s.pickT (hd := [_,_,_,_]) (tl := bs) (hd' := [_,_]) [0,1] rfl rfl);(first | rw [stext_mk,stT,if_pos e1] | rw [stext_mk,stT,if_neg n1,if_pos e2] | rw [stext_mk,stT,if_neg n1,if_neg n2,if_pos e3] | rw [stext_mk,stT,if_neg n1,if_neg n2,if_neg n3,if_pos e4,if_neg (by simpa using q)] | rw [stext_mk,stT,if_neg n1,if_neg n2,if_neg n3,if_pos e4,if_pos (by simpa using q)] | rw [stext_mk,stT,if_neg n1,if_neg n2,if_neg n3,if_neg n4,if_pos e5] | rw [stext_mk,stT,if_neg n1,if_neg n2,if_neg n3,if_neg n4,if_neg n5,if_pos e6] | rw [stext_mk,stT,if_neg n1,if_neg n2,if_neg n3,if_neg n4,if_neg n5,if_neg n6,if_pos e7] | rw [stext_mk,stT,if_neg n1,if_neg n2,if_neg n3,if_neg n4,if_neg n5,if_neg n6,if_neg n7,if_pos e8] | rw [stext_mk,stT,if_neg n1,if_neg n2,if_neg n3,if_neg n4,if_neg n5,if_neg n6,if_neg n7,if_neg n8,if_pos e9] | rw [stext_mk,stT,if_neg n1,if_neg n2,if_neg n3,if_neg n4,if_neg n5,if_neg n6,if_neg n7,if_neg n8,if_neg n9,if_pos e10]);(try simp only [List.append_assoc] at s2 ⊢);(try simp only [List.cons_append] at s2 ⊢);(try simp only [List.nil_append] at s2 ⊢);(try simp only [List.append_nil] at s2 ⊢);exact s2⟩
 try simp only [df] at h140
 have n9 : ¬ kd = 9 := fun e => h140 (by rw [e];rfl)
 refine .sr<|.yv (.eql Z Z) Z<|.a Z Z<|.nt<|.cd Z (fun h154 => ?_) (fun h154 => ?_)
 ·try simp only [dt] at h154
  have e10 : kd = 10 := UInt8.toNat_inj.1 (by show kd.toNat = 10;omega)
  have hlo : 0 ≤ ex.length := by have h5 := hfr.2.1;rw [e10] at h5;exact Nat.le_trans (by decide) h5
  rw [stT,if_neg n1,if_neg n2,if_neg n3,if_neg n4,if_neg n5,if_neg n6,if_neg n7,if_neg n8,if_neg n9,if_pos e10] at hl
  try simp only [List.length_append] at hl
  refine .rg<|.m Z Z<|.bl Z (Fx.bsl66_1 _) Z fun b157 => .cs (X := Value) Fx.call35 Z (fun W s => line_w (parts := [[115,116,111,112,59]]) ha (nb Z) (by (try simp only [List.length_append]);omega) (s.pickT (hd := [_,_,_,_,_]) (tl := bs) (hd' := [_,_,_,_,_]) [3,4,0,1,2] Z Z)) Z fun r158 _ => .nl<|.bN<|?_
  exact Sx.retN (.inr rfl) rfl .nil rfl fun W s => ⟨(_,_),(.inr rfl),rfl,by have s2 := (s.pickT (hd := [_,_,_,_,_]) (tl := bs) (hd' := [_,_]) [0,1] rfl rfl);(first | rw [stext_mk,stT,if_pos e1] | rw [stext_mk,stT,if_neg n1,if_pos e2] | rw [stext_mk,stT,if_neg n1,if_neg n2,if_pos e3] | rw [stext_mk,stT,if_neg n1,if_neg n2,if_neg n3,if_pos e4,if_neg (by simpa using q)] | rw [stext_mk,stT,if_neg n1,if_neg n2,if_neg n3,if_pos e4,if_pos (by simpa using q)] | rw [stext_mk,stT,if_neg n1,if_neg n2,if_neg n3,if_neg n4,if_pos e5] | rw [stext_mk,stT,if_neg n1,if_neg n2,if_neg n3,if_neg n4,if_neg n5,if_pos e6] | rw [stext_mk,stT,if_neg n1,if_neg n2,if_neg n3,if_neg n4,if_neg n5,if_neg n6,if_pos e7] | rw [stext_mk,stT,if_neg n1,if_neg n2,if_neg n3,if_neg n4,if_neg n5,if_neg n6,if_neg n7,if_pos e8] | rw [stext_mk,stT,if_neg n1,if_neg n2,if_neg n3,if_neg n4,if_neg n5,if_neg n6,if_neg n7,if_neg n8,if_pos e9] | rw [stext_mk,stT,if_neg n1,if_neg n2,if_neg n3,if_neg n4,if_neg n5,if_neg n6,if_neg n7,if_neg n8,if_neg n9,if_pos e10]);(try simp only [List.append_assoc] at s2 ⊢);(try simp only [List.cons_append] at s2 ⊢);(try simp only [List.nil_append] at s2 ⊢);(try simp only [List.append_nil] at s2 ⊢);exact s2⟩
 try simp only [df] at h154
 simp only [okKd,Bool.and_eq_true,decide_eq_true_eq] at hokd
 exact absurd (by omega : False) id
theorem Fx.agg71 : aggN Tryz.prog 71 = Option.some (Option.some 6) := by kernel_rfl
theorem Fx.call133 : callN Tryz.prog 133 = Bool.true := by kernel_rfl
theorem Fx.size3 : sizeN Tryz.prog 3 = Option.some 1 := by kernel_rfl
theorem Fx.size71 : sizeN Tryz.prog 71 = Option.some 6 := by kernel_rfl
theorem Fx.zero71 : zeroN Tryz.prog 71 = Option.some
 [Go.Value.int Go.IntKind.u8 (Int.ofNat 0),Go.Value.string { data := { toList := [] } },
  Go.Value.string { data := { toList := [] } },Go.Value.slice Option.none 0 0,Go.Value.slice Option.none 0 0,
  Go.Value.slice Option.none 0 0] := by kernel_rfl
set_option maxRecDepth 100000 in
theorem body_any (H : Hp) (G : Gl H) (g : Gt H) : ∀ x : List Sm,BodyOf H x := by
 refine Sm.lists fun l ih => ?_
 intro p n c w0 W bs b a r ind t hs hf ha hl hi s
 obtain rfl : n = l.length := by have := hs.len.1;simpa using this
 have hcap := hs.cap
 refine Sx.enterS Tryz.func111 rfl Tryz.ntmps111 rfl s ?_
 refine .sr<|.m Z Z<|.yv (.nilCheck Z) Z<|.yv (.fieldAddr Z Fx.field112_1) Z<|.yv (.load Z Fx.agg3 (.head _) Z) Z<|.yv (.add Z Z (c := ((ind + 1 : Nat) : Int)) ((w6 (by omega)).trans (by omega))) Z<|.yv (.nilCheck Z) Z<|.yv (.fieldAddr Z Fx.field112_1) Z<|.st .head Z Z Fx.size3 Z (nb Z) Z<|.nt<|.sq<|.sr<|.m Z Z<|.yv (.lenSl Fx.sl69 Z) Z<|.m Z Z<|.nt<|.bk<|.lp (X := Nat × Option Addr × Value) [(0,_),(13,_),(14,_)] ⟨rfl,rfl,rfl,trivial⟩ (bs) (fun z => [(15,.int .i64 (z.1 : Nat))]) (fun z => H) (fun z => [.box b [.pointer z.2.1,z.2.2,.int .i64 (ind + 1 : Nat)] 112,.row 5 1 z.2.2 (t ++ Sm.texts (ind + 1) (l.take z.1)).length ((t ++ Sm.texts (ind + 1) (l.take z.1)).map byteV)]) (fun z => z.1 ≤ l.length ∧ (z.2.1 = none ∨ z.2.1 = some ⟨b,0,none⟩)) (fun z => l.length - z.1) (0,a,r) (fun _ s => by simpa [Sm.texts] using s) ⟨rfl,trivial⟩ ⟨by simp,ha⟩ fun z hC => ?_
 obtain ⟨k,a,r⟩ := z
 dsimp only at hC ⊢
 obtain ⟨hk0,ha⟩ := hC
 refine .sr<|.yv (.lss Z Z) Z<|.nt<|.sq<|.cd Z (fun h16 => ?_) (fun h16 => ?_)
 ·try simp only [dt] at h16
  have hk : k < l.length := by omega
  obtain ⟨bE,oE,cE,hpE,rE,lE,mE⟩ := hs.elem (map_at hk)
  cases hpE
  have hf1 := salls_at hk hf
  have hle := stexts_take (ind + 1) l (k + 1)
  rw [stexts_succ hk,List.length_append] at hle
  have hi2 := ih _ (List.getElem_mem hk)
  exact .sk<|.tN<|.sq<|.bk<|.sr<|.yv (.indexSl Fx.sl69 Z Z Z (by omega) (q := oE + k * 6) Z) Z<|.yv (.loadMW Z Fx.agg71 mE lE) Z<|.al Fx.zero71 Z fun b5 => .sV .head Z Z Fx.size71 lE rE.one Z<|.nt<|.rg<|.m Z Z<|.yv (.loadW Z Fx.agg71 (.head _) lE) Z<|.cs (X := Option Addr × Value) Fx.call133 Z (fun W s => statement_any H G g _ hi2.1 hi2.2 _ _ _ _ _ _ _ _ _ rE hf1 ha (by (try simp only [List.length_append]);omega) (by omega) (s.pickT (hd := [_,_,_]) (tl := bs) (hd' := [_,_]) [1,2] Z Z)) Z fun z21 hz21 => .nl<|.bN<|.tN<|.rg<|.yv (.add Z Z (w6 (by omega))) Z<|.m Z Z<|.nt<|.ag (x := (k,a,r)) (k + 1,z21.1,z21.2) ⟨rfl,trivial⟩ ⟨rfl,rfl,rfl,trivial⟩ (fun _ s => by have s2 := s;dsimp only;rw [stexts_succ hk];(try simp only [List.append_assoc] at s2 ⊢);(try simp only [List.cons_append] at s2 ⊢);(try simp only [List.nil_append] at s2 ⊢);(try simp only [List.append_nil] at s2 ⊢);exact s2) ⟨by dsimp only;omega,hz21⟩ (by dsimp only;omega)
 try simp only [df] at h16
 obtain rfl : k = l.length := by omega
 rw [List.take_length]
 refine .ex<|.tE<|.tE<|.bE<|.tN<|.rg<|.m Z Z<|.yv (.nilCheck Z) Z<|.yv (.fieldAddr Z Fx.field112_1) Z<|.yv (.load Z Fx.agg3 (.head _) Z) Z<|.yv (.sub Z Z (c := ((ind : Nat) : Int)) ((w6 (by omega)).trans (by omega))) Z<|.yv (.nilCheck Z) Z<|.yv (.fieldAddr Z Fx.field112_1) Z<|.st .head Z Z Fx.size3 Z (nb Z) Z<|.nl<|?_
 exact Sx.retN (.inr rfl) rfl .nil rfl fun W s => ⟨(_,_),ha,rfl,by have s2 := (s.pickT (hd := [_,_]) (tl := bs) (hd' := [_,_]) [0,1] rfl rfl);(skip);(try simp only [List.append_assoc] at s2 ⊢);(try simp only [List.cons_append] at s2 ⊢);(try simp only [List.nil_append] at s2 ⊢);(try simp only [List.append_nil] at s2 ⊢);exact s2⟩
theorem all_imp {q r : Sm → Bool} (h : ∀ s,q s = true → r s = true) : ∀ l,Sm.alls q l = true → Sm.alls r l = true := by
 refine Sm.lists fun l ih => ?_
 induction l with
 | nil => intro _;rfl
 | cons s t iht =>
  intro hl
  obtain ⟨kd,nm,hd,ex,th,el⟩ := s
  have h0 := ih _ (.head _)
  simp only [Sm.th,Sm.el] at h0
  simp only [Sm.alls,sall_mk,Bool.and_eq_true] at hl ⊢
  exact ⟨⟨⟨h _ hl.1.1.1,h0.1 hl.1.1.2⟩,h0.2 hl.1.2⟩,iht (fun x hx => ih x (.tail _ hx)) hl.2⟩
theorem salls_and {q r : Sm → Bool} : ∀ l,Sm.alls q l = true → Sm.alls r l = true → Sm.alls (fun s => q s && r s) l = true := by
 refine Sm.lists fun l ih => ?_
 induction l with
 | nil => intro _ _;rfl
 | cons s t iht =>
  intro hl hr
  obtain ⟨kd,nm,hd,ex,th,el⟩ := s
  have h0 := ih _ (.head _)
  simp only [Sm.th,Sm.el] at h0
  simp only [Sm.alls,sall_mk,Bool.and_eq_true] at hl hr ⊢
  exact ⟨⟨⟨⟨hl.1.1.1,hr.1.1.1⟩,h0.1 hl.1.1.2 hr.1.1.2⟩,h0.2 hl.1.2 hr.1.2⟩,iht (fun x hx => ih x (.tail _ hx)) hl.2 hr.2⟩
def tokH (h : Hd) : Bool := decide (h.ps.length ≤ 1000) && Sm.alls tokS h.body
theorem tok_good {h : Hd} (h1 : smaH h = true) (h2 : namH h = true) (h3 : frmH h = true) : tokH h = true := by
 simp only [smaH,Bool.and_eq_true,Bool.not_eq_true',Bool.or_eq_false_iff,decide_eq_false_iff_not] at h1
 simp only [namH,Bool.and_eq_true] at h2
 simp only [tokH,Bool.and_eq_true,decide_eq_true_eq]
 refine ⟨by omega,all_imp (q := fun s => (smaS s && namS s) && frmS s) ?_ _ (salls_and _ (salls_and _ h1.2 h2.2) h3)⟩
 rintro ⟨kd,nm,hd,ex,th,el⟩ hs
 simp only [Bool.and_eq_true] at hs
 obtain ⟨⟨k1,k2⟩,k3⟩ := hs
 rw [tokS,k3,Bool.true_and,List.all_eq_true]
 intro x hx
 have k4 := (frm_len k3).2.2.2
 simp only [smaS,List.all_eq_true,decide_eq_true_eq] at k1
 simp only [namS,Bool.and_eq_true] at k2
 have := text_len8 (k1 x hx) (alls_mem hx k2.2) (alls_mem hx k4)
 simp only [decide_eq_true_eq];omega
theorem boolT_eq (b : Bool) : Lib.formatBool b = boolT b := by cases b <;> decide
theorem formatBool_any (b : Bool) (w : World) : Calls Tryz.prog 36 #[.bool b] w fun r w' => r = .returned (strV (boolT b)) ∧ Ext w w' :=
 (Tryz.strconv_FormatBool b w).mono fun _ _ ⟨he,hw⟩ => ⟨by rw [he,boolT_eq];rfl,hw ▸ Ext.refl w⟩
theorem itoa_any (H : Hp) (g : Gt H) (n : Int) (h0 : -9223372036854775808 ≤ n) (h1 : n ≤ 9223372036854775807) (w : World) (hA : Agr H w) : Calls Tryz.prog 37 #[.int .i64 n] w fun r w' => r = .returned (strV (Lib.itoa n)) ∧ Ext w w' :=
 (Tryz.strconv_Itoa n h0 h1 w (g w hA)).mono fun _ _ ⟨he,k,os,hw⟩ => ⟨he,hw ▸ ((Ext.refl w).drewN k).trans (ext_grow os)⟩
theorem join_mem {H : Hp} {W : World} (hA : Agr H W) (ps : List Str) {p : Option Addr} {c : Nat} (h : Rep H (.seq 1 (ps.map dStr)) [.slice p ps.length c]) (hN : ps.length ≤ 1000) (hl : (joinT ps).length ≤ 140737488355328) :
 Calls Tryz.prog 110 #[.slice p ps.length c,strV [44,32]] W fun e w' => e = .returned (strV (joinT ps)) ∧ Ext W w' := by
 by_cases h0 : ps.length = 0
 ·obtain rfl := List.eq_nil_of_length_eq_zero h0
  exact (Tryz.strings_Join_none p c ⟨#[44,32]⟩ W).mono fun e w' ⟨he,hw⟩ => ⟨he,hw ▸ Ext.refl W⟩
 ·obtain ⟨b,o,cs,rfl,r0,l0,⟨arr,T,m,m1,m2⟩⟩ := h.elem (map_at (f := dStr) (show 0 < ps.length by omega))
  refine join_W W b o c ps (fun j x e => ?_) (block_lt (hA _ _ m1)) (by omega) h.len.2.1 hl
  obtain ⟨b',o',cs',e1,r1,l1,m1'⟩ := h.elem (i := j) (d := dStr x) (by rw [List.getElem?_map,e];rfl)
  cases e1
  obtain ⟨rfl,_⟩ := str_open r1
  have := m1'.cell (j := 0) hA rfl
  simpa using this
theorem hdsT_succ {n : Nat} {l : List Hd} {k : Nat} (h : k < l.length) : hdsT n (l.take (k + 1)) = hdsT n (l.take k) ++ hdT n l[k] := mflat_succ h
theorem hdsT_take (n : Nat) (l : List Hd) (k : Nat) : (hdsT n (l.take k)).length ≤ (hdsT n l).length := mflat_take l k
set_option maxRecDepth 100000 in
theorem handlers_any (H : Hp) (G : Gl H) (g : Gt H) (l : List Hd) (cs : List Value) (w0 W : World) (bs : List Res) (b : Nat) (a : Option Addr) (r : Value) (ind : Nat) (t : Str) (h : Rep H (dVs .u8 l) cs) (hf : l.all tokH = true) (ha : (a = none ∨ a = some ⟨b,0,none⟩)) (hl : t.length + (hdsT ind l).length ≤ 10000000000000) (hi : ind ≤ 10000000000000) (s : St H w0 (.box b [.pointer a,r,.int .i64 (ind : Nat)] 112 :: .row 5 1 r (t).length ((t).map byteV) :: bs) W) :
 Calls Tryz.prog 78 #[.pointer (some ⟨b,0,none⟩),.agg cs.toArray] W fun e W' => ∃ z : Option Addr × Value,(z.1 = none ∨ z.1 = some ⟨b,0,none⟩) ∧ e = .returned (.tuple #[]) ∧ St H w0 (.box b [.pointer z.1,z.2,.int .i64 (ind : Nat)] 112 :: .row 5 1 z.2 (t ++ hdsT ind l).length ((t ++ hdsT ind l).map byteV) :: bs) W' := by
 obtain ⟨p,c,rfl,hs⟩ := vs_open h
 have hcap := hs.cap
 refine Sx.enterS Tryz.func78 rfl Tryz.ntmps78 rfl s ?_
 refine .sr<|.bx Z Z Z fun b3 => .ns<|.yv (.fieldAddr Z Fx.field76_0) Z<|.yv (.load Z Fx.agg74 (.head _) Z) Z<|.yv (.lenSl Fx.sl74 Z) Z<|.m Z Z<|.nt<|.bk<|.lp (X := Nat × Option Addr × Value) [(0,_),(7,_),(8,_)] ⟨rfl,rfl,rfl,trivial⟩ (_ :: bs) (fun z => [(9,.int .i64 (z.1 : Nat))]) (fun z => H) (fun z => [.box b [.pointer z.2.1,z.2.2,.int .i64 (ind : Nat)] 112,.row 5 1 z.2.2 (t ++ hdsT ind (l.take z.1)).length ((t ++ hdsT ind (l.take z.1)).map byteV)]) (fun z => z.1 ≤ l.length ∧ (z.2.1 = none ∨ z.2.1 = some ⟨b,0,none⟩)) (fun z => l.length - z.1) (0,a,r) (fun _ s => by have s2 := (s.pickT (hd := [_,_,_]) (tl := bs) (hd' := [_,_,_]) [1,2,0] Z Z);simpa [hdsT] using s2) ⟨rfl,trivial⟩ ⟨by simp,ha⟩ fun z hC => ?_
 obtain ⟨k,a,r⟩ := z
 dsimp only at hC ⊢
 obtain ⟨hk0,ha⟩ := hC
 refine .sr<|.yv (.lss Z Z) Z<|.nt<|.sq<|.cd Z (fun h10 => ?_) (fun h10 => ?_)
 ·try simp only [dt] at h10
  have hk : k < l.length := by omega
  obtain ⟨bE,oE,cE,hpE,rE,lE,mE⟩ := hs.elem (map_at hk)
  cases hpE
  have hf1 := lall_at hk hf
  have hle := hdsT_take ind l (k + 1)
  rw [hdsT_succ hk,List.length_append] at hle
  generalize hx : l[k] = x at rE hf1 hle
  obtain ⟨p1,c1,p2,c2,rfl,hn1,hs1,hs2⟩ := hd_open rE
  simp only [tokH,Bool.and_eq_true,decide_eq_true_eq] at hf1
  obtain ⟨hf1,hf2⟩ := hf1
  have hq := lineT_len ind [[125]]
  have hq2 := lineT_len ind [[111,110,32],x.nm,[40],joinT x.ps,[41,32,123]]
  simp only [List.flatten_cons,List.length_append] at hq2
  simp only [hdT,List.length_append] at hle
  exact .sk<|.tN<|.sq<|.bk<|.sr<|.yv (.indexSl Fx.sl74 Z Z Z (by omega) (q := oE + k * 3) Z) Z<|.yv (.loadMW Z Fx.agg73 mE Z) Z<|.al Fx.zero73 Z fun b5 => .sW .head Z Z Fx.size73 (by simp [Value.oneCell',strV]) Z<|.nt<|.sq<|.fl (trip := [(_,_,_),(_,_,_),(_,_,_),(_,_,_),(_,_,_),(_,_,_),(_,_,_)]) 7 [(0,0),(1,0),(2,0),(3,0),(4,0),(5,0),(6,1)] (by kernel_rfl) (by kernel_rfl) Z<|.m Z Z<|.yv (.fieldAddr Z Fx.field73_0) Z<|.yv (.load Z Fx.agg9 (.head _) Z) Z<|.yv (.fieldAddr Z Fx.field73_1) Z<|.yv (.load Z Fx.agg66 (.head _) Z) Z<|.yv (.call Fx.call110 Z (fun W s => join_mem s.agr x.ps hs1 hf1 (by omega))) Z<|.bl Z (Fx.bsl66_5 _ _ _ _ _) Z fun b19 => .fn (tl := [_]) Z<|.cs (X := Value) Fx.call35 Z (fun W s => line_w (parts := [[111,110,32],x.nm,[40],joinT x.ps,[41,32,123]]) ha (nb Z) (by (try simp only [List.length_append]);omega) (s.pickT (hd := [_,_,_,_,_]) (tl := bs) (hd' := [_,_,_,_,_]) [2,3,0,1,4] Z Z)) Z fun r20 _ => .ns<|.m Z Z<|.yv (.fieldAddr Z Fx.field73_2) Z<|.yv (.load Z Fx.agg69 (.tail _<|.tail _<|.tail _<|.head _) Z) Z<|.cs (X := Option Addr × Value) Fx.call111 Z (fun W s => body_any H G g _ _ _ _ _ _ _ _ _ _ _ _ hs2 hf2 (.inr Z) (by (try simp only [List.length_append]);omega) (by omega) (s.pickT (hd := [_,_,_,_,_]) (tl := bs) (hd' := [_,_,_,_]) [0,1,3,4] Z Z)) Z fun z24 hz24 => .nt<|.rg<|.m Z Z<|.bl Z (Fx.bsl66_1 _) Z fun b26 => .cs (X := Value) Fx.call35 Z (fun W s => line_w (parts := [[125]]) hz24 (nb Z) (by (try simp only [List.length_append]);omega) (s.pickT (hd := [_,_,_,_,_]) (tl := bs) (hd' := [_,_,_,_,_]) [1,2,0,3,4] Z Z)) Z fun r27 _ => .nl<|.bN<|.tN<|.rg<|.yv (.add Z Z (w6 (by omega))) Z<|.m Z Z<|.nt<|.ag (x := (k,a,r)) (k + 1,some ⟨b,0,none⟩,r27) ⟨rfl,trivial⟩ ⟨rfl,rfl,rfl,trivial⟩ (fun _ s => by have s2 := (s.pickT (hd := [_,_,_,_,_]) (tl := bs) (hd' := [_,_,_]) [0,1,4] Z Z);dsimp only;rw [hdsT_succ hk,hx,hdT];(try simp only [List.append_assoc] at s2 ⊢);(try simp only [List.cons_append] at s2 ⊢);(try simp only [List.nil_append] at s2 ⊢);(try simp only [List.append_nil] at s2 ⊢);exact s2) ⟨by dsimp only;omega,(.inr Z)⟩ (by dsimp only;omega)
 try simp only [df] at h10
 obtain rfl : k = l.length := by omega
 rw [List.take_length]
 refine .ex<|.tE<|.tE<|.bE<|?_
 exact Sx.retN (.inr rfl) rfl .nil rfl fun W s => ⟨(_,_),ha,rfl,by have s2 := (s.pickT (hd := [_,_,_]) (tl := bs) (hd' := [_,_]) [0,1] rfl rfl);(skip);(try simp only [List.append_assoc] at s2 ⊢);(try simp only [List.cons_append] at s2 ⊢);(try simp only [List.nil_append] at s2 ⊢);(try simp only [List.append_nil] at s2 ⊢);exact s2⟩
theorem Fx.call36 : callN Tryz.prog 36 = Bool.true := by kernel_rfl
theorem Fx.call37 : callN Tryz.prog 37 = Bool.true := by kernel_rfl
theorem Fx.call78 : callN Tryz.prog 78 = Bool.true := by kernel_rfl
set_option maxRecDepth 100000 in
theorem component_any (H : Hp) (G : Gl H) (g : Gt H) (x : Cp) (cs : List Value) (w0 W : World) (bs : List Res) (b : Nat) (a : Option Addr) (r : Value) (t : Str) (h : Rep H (dCp .u8 x) cs) (hf : cpAll tokH x = true) (ha : (a = none ∨ a = some ⟨b,0,none⟩)) (hl : t.length + (cpT x).length ≤ 10000000000000) (s : St H w0 (.box b [.pointer a,r,.int .i64 (1 : Nat)] 112 :: .row 5 1 r (t).length ((t).map byteV) :: bs) W) :
 Calls Tryz.prog 38 #[.pointer (some ⟨b,0,none⟩),.agg cs.toArray] W fun e W' => ∃ z : Option Addr × Value,(z.1 = none ∨ z.1 = some ⟨b,0,none⟩) ∧ e = .returned (.tuple #[]) ∧ St H w0 (.box b [.pointer z.1,z.2,.int .i64 (1 : Nat)] 112 :: .row 5 1 z.2 (t ++ cpT x).length ((t ++ cpT x).map byteV) :: bs) W' := by
 obtain ⟨p1,c1,p2,c2,rfl,hn1,hs1,hs2⟩ := cp_open h
 have hcap1 := hs1.cap
 have hcap2 := hs2.cap
 simp only [cpAll] at hf
 rw [cpT] at hl
 simp only [List.length_append] at hl
 refine Sx.enterS Tryz.func38 rfl Tryz.ntmps38 rfl s ?_
 refine .sr<|.bx Z Z Z fun b3 => .ns<|.m Z Z<|.yv (.fieldAddr Z Fx.field80_0) Z<|.yv (.load Z Fx.agg9 (.head _) Z) Z<|.bl Z (Fx.bsl66_3 _ _ _) Z fun b11 => .cs (X := Value) Fx.call35 Z (fun W s => line_w (parts := [[99,111,109,112,111,110,101,110,116,32],x.nm,[32,123]]) ha (nb Z) (by (try simp only [List.length_append]);omega) (s.pickT (hd := [_,_,_,_]) (tl := bs) (hd' := [_,_,_,_]) [2,3,0,1] Z Z)) Z fun r12 _ => .ns<|.m Z Z<|.yv (.nilCheck Z) Z<|.yv (.fieldAddr Z Fx.field112_1) Z<|.yv (.load Z Fx.agg3 (.head _) Z) Z<|.yv (.add Z Z (c := ((2 : Nat) : Int)) (by decide)) Z<|.yv (.nilCheck Z) Z<|.yv (.fieldAddr Z Fx.field112_1) Z<|.st .head Z Z Fx.size3 Z (nb Z) Z<|.nt<|.sq<|.sr<|.yv (.fieldAddr Z Fx.field80_1) Z<|.yv (.load Z Fx.agg78 (.tail _<|.tail _<|.tail _<|.head _) Z) Z<|.yv (.lenSl Fx.sl78 Z) Z<|.m Z Z<|.nt<|.bk<|.lp (X := Nat × Option Addr × Value) [(0,_),(3,_),(21,_),(22,_)] ⟨rfl,rfl,rfl,rfl,trivial⟩ (_ :: bs) (fun z => [(23,.int .i64 (z.1 : Nat))]) (fun z => H) (fun z => [.box b [.pointer z.2.1,z.2.2,.int .i64 (2 : Nat)] 112,.row 5 1 z.2.2 (t ++ lineT 1 [[99,111,109,112,111,110,101,110,116,32],x.nm,[32,123]] ++ ((x.vars.take z.1).map (vrT 2)).flatten).length ((t ++ lineT 1 [[99,111,109,112,111,110,101,110,116,32],x.nm,[32,123]] ++ ((x.vars.take z.1).map (vrT 2)).flatten).map byteV)]) (fun z => z.1 ≤ x.vars.length ∧ (z.2.1 = none ∨ z.2.1 = some ⟨b,0,none⟩)) (fun z => x.vars.length - z.1) (0,some ⟨b,0,none⟩,r12) (fun _ s => by have s2 := (s.pickT (hd := [_,_,_,_]) (tl := bs) (hd' := [_,_,_]) [0,1,3] Z Z);simpa using s2) ⟨rfl,trivial⟩ ⟨by simp,.inr Z⟩ fun z hC => ?_
 obtain ⟨k,a,r⟩ := z
 dsimp only at hC ⊢
 obtain ⟨hk0,ha⟩ := hC
 refine .sr<|.yv (.lss Z Z) Z<|.nt<|.sq<|.cd Z (fun h24 => ?_) (fun h24 => ?_)
 ·try simp only [dt] at h24
  have hk : k < x.vars.length := by omega
  obtain ⟨bE,oE,cE,hpE,rE,lE,mE⟩ := hs1.elem (map_at hk)
  cases hpE
  have hle := mflat_take (g := vrT 2) x.vars (k + 1)
  rw [mflat_succ hk,List.length_append] at hle
  generalize hx : x.vars[k] = v at rE hle
  obtain ⟨rfl,hn2⟩ := vr_open rE
  refine .sk<|.tN<|.sq<|.bk<|.sr<|.yv (.indexSl Fx.sl78 Z Z Z (by omega) (q := oE + k * 3) Z) Z<|.yv (.loadMW Z Fx.agg96 mE Z) Z<|.al Fx.zero96 Z fun b5 => .sW .head Z Z Fx.size96 (by simp [Value.oneCell',strV]) Z<|.ns<|.yv (.fieldAddr Z Fx.field96_1) Z<|.yv (.load Z Fx.agg94 (.head _) Z) Z<|.nt<|.bk<|.sr<|.yv (.eql Z Z) Z<|.a Z Z<|.nt<|.cd Z (fun h29 => ?_) (fun h29 => ?_)
  ·try simp only [dt] at h29
   have e1 : v.ty = 1 := UInt8.toNat_inj.1 (by show v.ty.toNat = 1;omega)
   rw [vrT,if_pos e1] at hle
   exact .fl (trip := [(_,_,_),(_,_,_),(_,_,_),(_,_,_),(_,_,_),(_,_,_),(_,_,_)]) 7 [(0,0),(1,0),(2,0),(3,0),(4,0),(5,0),(6,1)] (by kernel_rfl) (by kernel_rfl) Z<|.m Z Z<|.yv (.fieldAddr Z Fx.field96_0) Z<|.yv (.load Z Fx.agg9 (.head _) Z) Z<|.yv (.fieldAddr Z Fx.field96_2) Z<|.yv (.load Z Fx.agg2 (.head _) Z) Z<|.yv (.call Fx.call77 Z (fun W s => formatInt_any H g v.init W s.agr)) Z<|.bl Z (Fx.bsl66_5 _ _ _ _ _) Z fun b37 => .fn (tl := [_]) Z<|.cs (X := Value) Fx.call35 Z (fun W s => line_w (parts := [[118,97,114,32],v.nm,[58,32,105,110,116,32,61,32],Lib.itoa v.init.toInt,[59]]) ha (nb Z) (by (try simp only [List.length_append]);omega) (s.pickT (hd := [_,_,_,_,_]) (tl := bs) (hd' := [_,_,_,_,_]) [2,3,0,1,4] Z Z)) Z fun r38 _ => .nl<|.bN<|.bN<|.tN<|.rg<|.yv (.add Z Z (w6 (by omega))) Z<|.m Z Z<|.nt<|.ag (x := (k,a,r)) (k + 1,some ⟨b,0,none⟩,r38) ⟨rfl,trivial⟩ ⟨rfl,rfl,rfl,rfl,trivial⟩ (fun _ s => by have s2 := (s.pickT (hd := [_,_,_,_,_]) (tl := bs) (hd' := [_,_,_]) [0,1,4] Z Z);dsimp only;rw [mflat_succ hk,hx];(first | rw [vrT,if_pos e1] | rw [vrT,if_neg n1,if_pos e2] | rw [vrT,if_neg n1,if_neg n2,if_pos e3] | rw [vrT,if_neg n1,if_neg n2,if_neg n3]);(try simp only [List.append_assoc] at s2 ⊢);(try simp only [List.cons_append] at s2 ⊢);(try simp only [List.nil_append] at s2 ⊢);(try simp only [List.append_nil] at s2 ⊢);exact s2) ⟨by dsimp only;omega,(.inr Z)⟩ (by dsimp only;omega)
  try simp only [df] at h29
  have n1 : ¬ v.ty = 1 := fun e => h29 (by rw [e];rfl)
  refine .sr<|.yv (.eql Z Z) Z<|.a Z Z<|.nt<|.cd Z (fun h39 => ?_) (fun h39 => ?_)
  ·try simp only [dt] at h39
   have e2 : v.ty = 2 := UInt8.toNat_inj.1 (by show v.ty.toNat = 2;omega)
   rw [vrT,if_neg n1,if_pos e2] at hle
   exact .fl (trip := [(_,_,_),(_,_,_),(_,_,_),(_,_,_),(_,_,_),(_,_,_),(_,_,_),(_,_,_)]) 8 [(0,0),(1,0),(2,0),(3,0),(4,0),(5,0),(6,0),(7,1)] (by kernel_rfl) (by kernel_rfl) Z<|.m Z Z<|.yv (.fieldAddr Z Fx.field96_0) Z<|.yv (.load Z Fx.agg9 (.head _) Z) Z<|.yv (.fieldAddr Z Fx.field96_2) Z<|.yv (.load Z Fx.agg2 (.head _) Z) Z<|.yv (.eql Z Z) Z<|.yv (.call Fx.call36 Z (fun W s => formatBool_any _ W)) Z<|.bl Z (Fx.bsl66_5 _ _ _ _ _) Z fun b48 => .fn (tl := [_]) Z<|.cs (X := Value) Fx.call35 Z (fun W s => line_w (parts := [[118,97,114,32],v.nm,[58,32,98,111,111,108,32,61,32],boolT (decide (v.init.toInt = 1)),[59]]) ha (nb Z) (by (try simp only [List.length_append]);omega) (s.pickT (hd := [_,_,_,_,_]) (tl := bs) (hd' := [_,_,_,_,_]) [2,3,0,1,4] Z Z)) Z fun r49 _ => .nl<|.bN<|.bN<|.tN<|.rg<|.yv (.add Z Z (w6 (by omega))) Z<|.m Z Z<|.nt<|.ag (x := (k,a,r)) (k + 1,some ⟨b,0,none⟩,r49) ⟨rfl,trivial⟩ ⟨rfl,rfl,rfl,rfl,trivial⟩ (fun _ s => by have s2 := (s.pickT (hd := [_,_,_,_,_]) (tl := bs) (hd' := [_,_,_]) [0,1,4] Z Z);dsimp only;rw [mflat_succ hk,hx];(first | rw [vrT,if_pos e1] | rw [vrT,if_neg n1,if_pos e2] | rw [vrT,if_neg n1,if_neg n2,if_pos e3] | rw [vrT,if_neg n1,if_neg n2,if_neg n3]);(try simp only [List.append_assoc] at s2 ⊢);(try simp only [List.cons_append] at s2 ⊢);(try simp only [List.nil_append] at s2 ⊢);(try simp only [List.append_nil] at s2 ⊢);exact s2) ⟨by dsimp only;omega,(.inr Z)⟩ (by dsimp only;omega)
  try simp only [df] at h39
  have n2 : ¬ v.ty = 2 := fun e => h39 (by rw [e];rfl)
  refine .sr<|.yv (.eql Z Z) Z<|.a Z Z<|.nt<|.cd Z (fun h50 => ?_) (fun h50 => ?_)
  ·try simp only [dt] at h50
   have e3 : v.ty = 3 := UInt8.toNat_inj.1 (by show v.ty.toNat = 3;omega)
   rw [vrT,if_neg n1,if_neg n2,if_pos e3] at hle
   exact .rg<|.m Z Z<|.yv (.fieldAddr Z Fx.field96_0) Z<|.yv (.load Z Fx.agg9 (.head _) Z) Z<|.bl Z (Fx.bsl66_3 _ _ _) Z fun b55 => .cs (X := Value) Fx.call35 Z (fun W s => line_w (parts := [[118,97,114,32],v.nm,[58,32,116,97,98,108,101,59]]) ha (nb Z) (by (try simp only [List.length_append]);omega) (s.pickT (hd := [_,_,_,_,_]) (tl := bs) (hd' := [_,_,_,_,_]) [2,3,0,1,4] Z Z)) Z fun r56 _ => .nl<|.bN<|.bN<|.tN<|.rg<|.yv (.add Z Z (w6 (by omega))) Z<|.m Z Z<|.nt<|.ag (x := (k,a,r)) (k + 1,some ⟨b,0,none⟩,r56) ⟨rfl,trivial⟩ ⟨rfl,rfl,rfl,rfl,trivial⟩ (fun _ s => by have s2 := (s.pickT (hd := [_,_,_,_,_]) (tl := bs) (hd' := [_,_,_]) [0,1,4] Z Z);dsimp only;rw [mflat_succ hk,hx];(first | rw [vrT,if_pos e1] | rw [vrT,if_neg n1,if_pos e2] | rw [vrT,if_neg n1,if_neg n2,if_pos e3] | rw [vrT,if_neg n1,if_neg n2,if_neg n3]);(try simp only [List.append_assoc] at s2 ⊢);(try simp only [List.cons_append] at s2 ⊢);(try simp only [List.nil_append] at s2 ⊢);(try simp only [List.append_nil] at s2 ⊢);exact s2) ⟨by dsimp only;omega,(.inr Z)⟩ (by dsimp only;omega)
  try simp only [df] at h50
  have n3 : ¬ v.ty = 3 := fun e => h50 (by rw [e];rfl)
  exact .sk<|.bN<|.bN<|.tN<|.rg<|.yv (.add Z Z (w6 (by omega))) Z<|.m Z Z<|.nt<|.ag (x := (k,a,r)) (k + 1,a,r) ⟨rfl,trivial⟩ ⟨rfl,rfl,rfl,rfl,trivial⟩ (fun _ s => by have s2 := s.drop;dsimp only;rw [mflat_succ hk,hx];(first | rw [vrT,if_pos e1] | rw [vrT,if_neg n1,if_pos e2] | rw [vrT,if_neg n1,if_neg n2,if_pos e3] | rw [vrT,if_neg n1,if_neg n2,if_neg n3]);(try simp only [List.append_assoc] at s2 ⊢);(try simp only [List.cons_append] at s2 ⊢);(try simp only [List.nil_append] at s2 ⊢);(try simp only [List.append_nil] at s2 ⊢);exact s2) ⟨by dsimp only;omega,ha⟩ (by dsimp only;omega)
 try simp only [df] at h24
 obtain rfl : k = x.vars.length := by omega
 rw [List.take_length]
 refine .ex<|.tE<|.tE<|.bE<|.tN<|.sq<|.sr<|.yv (.fieldAddr Z Fx.field80_2) Z<|.yv (.load Z Fx.agg77 (.tail _<|.tail _<|.head _) Z) Z<|.yv (.lenSl Fx.sl77 Z) Z<|.m Z Z<|.nt<|.bk<|.lp (X := Nat × Option Addr × Value) [(0,_),(59,_),(60,_)] ⟨rfl,rfl,rfl,trivial⟩ (_ :: bs) (fun z => [(61,.int .i64 (z.1 : Nat))]) (fun z => H) (fun z => [.box b [.pointer z.2.1,z.2.2,.int .i64 (2 : Nat)] 112,.row 5 1 z.2.2 (t ++ lineT 1 [[99,111,109,112,111,110,101,110,116,32],x.nm,[32,123]] ++ (x.vars.map (vrT 2)).flatten ++ vssT 2 0 (x.vers.take z.1)).length ((t ++ lineT 1 [[99,111,109,112,111,110,101,110,116,32],x.nm,[32,123]] ++ (x.vars.map (vrT 2)).flatten ++ vssT 2 0 (x.vers.take z.1)).map byteV)]) (fun z => z.1 ≤ x.vers.length ∧ (z.2.1 = none ∨ z.2.1 = some ⟨b,0,none⟩)) (fun z => x.vers.length - z.1) (0,a,r) (fun _ s => by have s2 := s;simpa [vssT] using s2) ⟨rfl,trivial⟩ ⟨by simp,ha⟩ fun z hC => ?_
 obtain ⟨k,a,r⟩ := z
 dsimp only at hC ⊢
 obtain ⟨hk0,ha⟩ := hC
 refine .sr<|.yv (.lss Z Z) Z<|.nt<|.sq<|.cd Z (fun h62 => ?_) (fun h62 => ?_)
 ·try simp only [dt] at h62
  have hk : k < x.vers.length := by omega
  obtain ⟨bE,oE,cE,hpE,rE,lE,mE⟩ := hs2.elem (map_at hk)
  cases hpE
  have hf1 := lall_at hk hf
  have hle := vssT_take 2 x.vers (k + 1)
  rw [vssT_succ hk,List.length_append] at hle
  generalize hx : x.vers[k] = v at rE hf1 hle
  refine .sk<|.tN<|.sq<|.bk<|.sr<|.m Z Z<|.yv (.indexSl Fx.sl77 Z Z Z (by omega) (q := oE + k * 1) Z) Z<|.yv (.loadMW Z Fx.agg76 mE lE) Z<|.al Fx.zero76 Z fun b7 => .a Z Z<|.sV .head Z Z Fx.size76 lE rE.one Z<|.nt<|.sq<|.sr<|.m Z Z<|.yv (.eql Z Z) Z<|.nt<|.cd Z (fun h67 => ?_) (fun h67 => ?_)
  ·try simp only [dt] at h67
   have q : k = 0 := by omega
   rw [vsT,if_pos q] at hle
   exact .sr<|.m Z Z<|.yv (.loadW Z Fx.agg76 (.head _) lE) Z<|.cs (X := Option Addr × Value) Fx.call78 Z (fun W s => handlers_any H G g _ _ _ _ _ _ _ _ _ _ rE hf1 ha (by (try simp only [List.length_append]);omega) (by omega) (s.pickT (hd := [_,_,_,_]) (tl := bs) (hd' := [_,_,_,_]) [1,2,0,3] Z Z)) Z fun z70 hz70 => .nt<|.ex<|.tE<|.bE<|.tN<|.rg<|.yv (.add Z Z (w6 (by omega))) Z<|.m Z Z<|.nt<|.ag (x := (k,a,r)) (k + 1,z70.1,z70.2) ⟨rfl,trivial⟩ ⟨rfl,rfl,rfl,trivial⟩ (fun _ s => by have s2 := (s.pickT (hd := [_,_,_,_]) (tl := bs) (hd' := [_,_,_]) [0,1,3] Z Z);dsimp only;rw [vssT_succ hk,hx];(first | rw [vsT,if_pos q] | rw [vsT,if_neg q]);(try simp only [List.append_assoc] at s2 ⊢);(try simp only [List.cons_append] at s2 ⊢);(try simp only [List.nil_append] at s2 ⊢);(try simp only [List.append_nil] at s2 ⊢);exact s2) ⟨by dsimp only;omega,hz70⟩ (by dsimp only;omega)
  try simp only [df] at h67
  have q : ¬ k = 0 := by omega
  rw [vsT,if_neg q,show (2 : Nat) + 1 = 3 from rfl] at hle
  simp only [List.length_append] at hle
  exact .sk<|.tN<|.sr<|.m Z Z<|.m Z Z<|.yv (.add Z Z (c := ((k + 1 : Nat) : Int)) ((w6 (by omega)).trans (by omega))) Z<|.yv (.call Fx.call37 Z (fun W s => itoa_any H g _ (by omega) (by omega) W s.agr)) Z<|.bl Z (Fx.bsl66_3 _ _ _) Z fun b75 => .cs (X := Value) Fx.call35 Z (fun W s => line_w (parts := [[118,101,114,115,105,111,110,32],Lib.itoa ((k + 1 : Nat) : Int),[32,123]]) ha (nb Z) (by (try simp only [List.length_append]);omega) (s.pickT (hd := [_,_,_,_,_]) (tl := bs) (hd' := [_,_,_,_,_]) [2,3,0,1,4] Z Z)) Z fun r76 _ => .ns<|.m Z Z<|.yv (.nilCheck Z) Z<|.yv (.fieldAddr Z Fx.field112_1) Z<|.yv (.load Z Fx.agg3 (.head _) Z) Z<|.yv (.add Z Z (c := ((3 : Nat) : Int)) (by decide)) Z<|.yv (.nilCheck Z) Z<|.yv (.fieldAddr Z Fx.field112_1) Z<|.st .head Z Z Fx.size3 Z (nb Z) Z<|.ns<|.m Z Z<|.yv (.loadW Z Fx.agg76 (.tail _<|.tail _<|.tail _<|.head _) lE) Z<|.cs (X := Option Addr × Value) Fx.call78 Z (fun W s => handlers_any H G g _ _ _ _ _ _ _ _ _ _ rE hf1 (.inr Z) (by (try simp only [List.length_append]);omega) (by omega) (s.pickT (hd := [_,_,_,_,_]) (tl := bs) (hd' := [_,_,_,_]) [0,1,3,4] Z Z)) Z fun z86 hz86 => .ns<|.m Z Z<|.yv (.nilCheck Z) Z<|.yv (.fieldAddr Z Fx.field112_1) Z<|.yv (.load Z Fx.agg3 (.head _) Z) Z<|.yv (.sub Z Z (c := ((2 : Nat) : Int)) (by decide)) Z<|.yv (.nilCheck Z) Z<|.yv (.fieldAddr Z Fx.field112_1) Z<|.st .head Z Z Fx.size3 Z (nb Z) Z<|.nt<|.rg<|.m Z Z<|.bl Z (Fx.bsl66_1 _) Z fun b95 => .cs (X := Value) Fx.call35 Z (fun W s => line_w (parts := [[125]]) hz86 (nb Z) (by (try simp only [List.length_append]);omega) (s.pickT (hd := [_,_,_,_,_]) (tl := bs) (hd' := [_,_,_,_,_]) [1,2,0,3,4] Z Z)) Z fun r96 _ => .nl<|.bN<|.tN<|.rg<|.yv (.add Z Z (w6 (by omega))) Z<|.m Z Z<|.nt<|.ag (x := (k,a,r)) (k + 1,some ⟨b,0,none⟩,r96) ⟨rfl,trivial⟩ ⟨rfl,rfl,rfl,trivial⟩ (fun _ s => by have s2 := (s.pickT (hd := [_,_,_,_,_]) (tl := bs) (hd' := [_,_,_]) [0,1,4] Z Z);dsimp only;rw [vssT_succ hk,hx];(first | rw [vsT,if_pos q] | rw [vsT,if_neg q]);(try simp only [List.append_assoc] at s2 ⊢);(try simp only [List.cons_append] at s2 ⊢);(try simp only [List.nil_append] at s2 ⊢);(try simp only [List.append_nil] at s2 ⊢);exact s2) ⟨by dsimp only;omega,(.inr Z)⟩ (by dsimp only;omega)
 try simp only [df] at h62
 obtain rfl : k = x.vers.length := by omega
 rw [List.take_length]
 refine .ex<|.tE<|.tE<|.bE<|.tN<|.sr<|.m Z Z<|.yv (.nilCheck Z) Z<|.yv (.fieldAddr Z Fx.field112_1) Z<|.yv (.load Z Fx.agg3 (.head _) Z) Z<|.yv (.sub Z Z (c := ((1 : Nat) : Int)) (by decide)) Z<|.yv (.nilCheck Z) Z<|.yv (.fieldAddr Z Fx.field112_1) Z<|.st .head Z Z Fx.size3 Z (nb Z) Z<|.nt<|.rg<|.m Z Z<|.bl Z (Fx.bsl66_1 _) Z fun b106 => .cs (X := Value) Fx.call35 Z (fun W s => line_w (parts := [[125]]) ha (nb Z) (by (try simp only [List.length_append]);omega) (s.pickT (hd := [_,_,_,_]) (tl := bs) (hd' := [_,_,_,_]) [1,2,0,3] Z Z)) Z fun r107 _ => .nl<|?_
 exact Sx.retN (.inr rfl) rfl .nil rfl fun W s => ⟨(_,_),(.inr rfl),rfl,by have s2 := (s.pickT (hd := [_,_,_,_]) (tl := bs) (hd' := [_,_]) [0,1] rfl rfl);(rw [cpT]);(try simp only [List.append_assoc] at s2 ⊢);(try simp only [List.cons_append] at s2 ⊢);(try simp only [List.nil_append] at s2 ⊢);(try simp only [List.append_nil] at s2 ⊢);exact s2⟩
theorem Fx.call9 : callN Tryz.prog 9 = Bool.true := by kernel_rfl
theorem Fx.call38 : callN Tryz.prog 38 = Bool.true := by kernel_rfl
theorem Fx.call39 : callN Tryz.prog 39 = Bool.true := by kernel_rfl
theorem Fx.call51 : callN Tryz.prog 51 = Bool.true := by kernel_rfl
theorem Fx.field65_1 : fieldN Tryz.prog 65 1 = Option.some 1 := by kernel_rfl
theorem Fx.bld112  : buildN Tryz.prog 112 [] = some [.pointer none,.slice none 0 0,.int .i64 0] := by kernel_rfl
theorem string_w {H : Hp} {w0 W : World} {bs : List Res} {b : Nat} {a : Option Addr} {r i : Value} {l : Str} (s : St H w0 (.box b [.pointer a,r,i] 112 :: .row 5 1 r l.length (l.map byteV) :: bs) W) (h0 : l ≠ []) (hl : l.length ≤ 140737488355328) :
 Calls Tryz.prog 39 #[.pointer (some ⟨b,0,none⟩)] W fun e W' => ∃ _ : Unit,True ∧ e = .returned (strV l) ∧ St H w0 [] W' := by
 have ho := (s.own _ (.tail _ (.head _))).1
 rcases ho.2 with ⟨_,h⟩ | ⟨g,cap,cur,rfl,_,_,h1,_⟩
 ·exact absurd (List.eq_nil_of_length_eq_zero h) h0
 ·exact string_st s h0 h1 hl
theorem tokF_good {x : Ft} (h : checkF x = 0) : x.comps.all (cpAll tokH) = true := by
 unfold checkF at h
 split at h
 ·cases h
 split at h
 ·cases h
 split at h
 ·cases h
 rename_i h1 h2 h3
 simp only [Bool.not_eq_false,smlF,namF,frmF,Bool.and_eq_true] at h1 h2 h3
 have k1 := h1.2.2
 have k2 := h2.2
 have k3 := h3.2
 rw [evH_eq] at k1 k2 k3
 simp only [cpAll,List.all_eq_true] at k1 k2 k3 ⊢
 exact fun c hc v hv d hd => tok_good (k1 c hc v hv d hd) (k2 c hc v hv d hd) (k3 c hc v hv d hd)
set_option maxRecDepth 100000 in
theorem print_any (H : Hp) (G : Gl H) (g : Gt H) (x : Ft) (cs : List Value) (h : Rep H (dFt .u8 x) cs) (hok : evH okH x = true) (hl0 : checkF x = 0 → (ftT x).length ≤ 10000000000000) (w : World) (hA : Agr H w) :
 Calls Tryz.prog 13 #[.agg cs.toArray] w fun r w' => r = .returned (strV (if checkF x = 0 then ftT x else [])) ∧ Ext w w' := by
 obtain ⟨p1,c1,p2,c2,p3,c3,rfl,hn1,hs1,hs2,hs3⟩ := ft_open h
 have hcap1 := hs1.cap
 have hcap2 := hs2.cap
 have hcap3 := hs3.cap
 refine Sx.enter (H := H) Tryz.func13 rfl Tryz.ntmps13 rfl hA ?_
 refine .sr<|.bx Z Z Z fun b1 => .a Z Z<|.nt<|.sq<|.sr<|.yv (.loadW Z Fx.agg40 (.head _) Z) Z<|.yv (.call Fx.call9 Z (fun W s => check_any H G x _ h hok W s.agr)) Z<|.yv (.neq Z Z) Z<|.nt<|.cd Z (fun h12 => ?_) (fun h12 => ?_)
 ·try simp only [dt] at h12
  refine .sr<|.a Z Z<|.nt<|.rt<|.tR<|?_
  exact Sx.ret1 (.inl rfl) rfl (.tmp rfl) fun W s => ⟨by rw [if_neg (by omega)];rfl,s.ext⟩
 try simp only [df] at h12
 have hck : checkF x = 0 := by simp at h12;omega
 have hl := hl0 hck
 rw [ftT] at hl
 simp only [List.length_append] at hl
 have h00 : ([] : Str).length = 0 := rfl
 have hf := tokF_good hck
 refine .sk<|.tN<|.sr<|.yv (.build Z Fx.bld112) Z<|.bx Z Z Z fun b => ?_
 refine Sx.row0 5 1 ?_
 refine .a Z Z<|.ns<|.m Z Z<|.yv (.fieldAddr Z Fx.field40_0) Z<|.yv (.load Z Fx.agg9 (.tail _<|.tail _<|.head _) Z) Z<|.bl Z (Fx.bsl66_3 _ _ _) Z fun b18 => .cs (X := Value) Fx.call35 Z (fun W s => line_w (t := []) (parts := [[102,108,101,101,116,32],x.nm,[32,123]]) (.inl Z) (nb Z) (by (try simp only [List.length_append]);omega) (s.pickT (hd := [_,_,_,_]) (tl := []) (hd' := [_,_,_,_]) [2,1,0,3] Z Z)) Z fun r19 _ => .ns<|.m Z Z<|.yv (.nilCheck Z) Z<|.yv (.fieldAddr Z Fx.field112_1) Z<|.yv (.load Z Fx.agg3 (.head _) Z) Z<|.yv (.add Z Z (c := ((1 : Nat) : Int)) (by decide)) Z<|.yv (.nilCheck Z) Z<|.yv (.fieldAddr Z Fx.field112_1) Z<|.st .head Z Z Fx.size3 Z (nb Z) Z<|.nt<|.sq<|.sr<|.yv (.fieldAddr Z Fx.field40_1) Z<|.yv (.load Z Fx.agg36 (.tail _<|.tail _<|.tail _<|.head _) Z) Z<|.yv (.lenSl Fx.sl36 Z) Z<|.m Z Z<|.nt<|.bk<|.lp (X := Nat × Option Addr × Value) [(1,_),(3,_),(28,_),(29,_)] ⟨rfl,rfl,rfl,rfl,trivial⟩ (_ :: []) (fun z => [(30,.int .i64 (z.1 : Nat))]) (fun z => H) (fun z => [.box b [.pointer z.2.1,z.2.2,.int .i64 (1 : Nat)] 112,.row 5 1 z.2.2 ([] ++ lineT 0 [[102,108,101,101,116,32],x.nm,[32,123]] ++ ((x.flags.take z.1).map fgT).flatten).length (([] ++ lineT 0 [[102,108,101,101,116,32],x.nm,[32,123]] ++ ((x.flags.take z.1).map fgT).flatten).map byteV)]) (fun z => z.1 ≤ x.flags.length ∧ (z.2.1 = none ∨ z.2.1 = some ⟨b,0,none⟩)) (fun z => x.flags.length - z.1) (0,some ⟨b,0,none⟩,r19) (fun _ s => by have s2 := (s.pickT (hd := [_,_,_,_]) (tl := []) (hd' := [_,_,_]) [0,1,3] Z Z);simpa using s2) ⟨rfl,trivial⟩ ⟨by simp,.inr Z⟩ fun z hC => ?_
 obtain ⟨k,a,r⟩ := z
 dsimp only at hC ⊢
 obtain ⟨hk0,ha⟩ := hC
 refine .sr<|.yv (.lss Z Z) Z<|.nt<|.sq<|.cd Z (fun h31 => ?_) (fun h31 => ?_)
 ·try simp only [dt] at h31
  have hk : k < x.flags.length := by omega
  obtain ⟨bE,oE,cE,hpE,rE,lE,mE⟩ := hs1.elem (map_at hk)
  cases hpE
  have hle := mflat_take (g := fgT) x.flags (k + 1)
  rw [mflat_succ hk,List.length_append] at hle
  generalize hx : x.flags[k] = v at rE hle
  obtain ⟨rfl,hn2⟩ := fg_open rE
  rw [fgT] at hle
  exact .sk<|.tN<|.sq<|.bk<|.sr<|.yv (.indexSl Fx.sl36 Z Z Z (by omega) (q := oE + k * 2) Z) Z<|.yv (.loadMW Z Fx.agg65 mE Z) Z<|.al Fx.zero65 Z fun b5 => .sW .head Z Z Fx.size65 (by simp [Value.oneCell',strV]) Z<|.nt<|.fl (trip := [(_,_,_),(_,_,_),(_,_,_),(_,_,_),(_,_,_),(_,_,_),(_,_,_)]) 7 [(0,0),(1,0),(2,0),(3,0),(4,0),(5,0),(6,1)] (by kernel_rfl) (by kernel_rfl) Z<|.m Z Z<|.yv (.fieldAddr Z Fx.field65_0) Z<|.yv (.load Z Fx.agg9 (.head _) Z) Z<|.yv (.fieldAddr Z Fx.field65_1) Z<|.yv (.load Z Fx.agg4 (.head _) Z) Z<|.yv (.call Fx.call36 Z (fun W s => formatBool_any _ W)) Z<|.bl Z (Fx.bsl66_5 _ _ _ _ _) Z fun b40 => .fn (tl := [_]) Z<|.cs (X := Value) Fx.call35 Z (fun W s => line_w (parts := [[102,108,97,103,32],v.nm,[32,61,32],boolT v.init,[59]]) ha (nb Z) (by (try simp only [List.length_append]);omega) (s.pickT (hd := [_,_,_,_,_]) (tl := []) (hd' := [_,_,_,_,_]) [2,3,0,1,4] Z Z)) Z fun r41 _ => .nl<|.bN<|.tN<|.rg<|.yv (.add Z Z (w6 (by omega))) Z<|.m Z Z<|.nt<|.ag (x := (k,a,r)) (k + 1,some ⟨b,0,none⟩,r41) ⟨rfl,trivial⟩ ⟨rfl,rfl,rfl,rfl,trivial⟩ (fun _ s => by have s2 := (s.pickT (hd := [_,_,_,_,_]) (tl := []) (hd' := [_,_,_]) [0,1,4] Z Z);dsimp only;rw [mflat_succ hk,hx,fgT];(try simp only [List.append_assoc] at s2 ⊢);(try simp only [List.cons_append] at s2 ⊢);(try simp only [List.nil_append] at s2 ⊢);(try simp only [List.append_nil] at s2 ⊢);exact s2) ⟨by dsimp only;omega,(.inr Z)⟩ (by dsimp only;omega)
 try simp only [df] at h31
 obtain rfl : k = x.flags.length := by omega
 rw [List.take_length]
 refine .ex<|.tE<|.tE<|.bE<|.tN<|.sq<|.sr<|.yv (.fieldAddr Z Fx.field40_2) Z<|.yv (.load Z Fx.agg37 (.tail _<|.tail _<|.head _) Z) Z<|.yv (.lenSl Fx.sl37 Z) Z<|.m Z Z<|.nt<|.bk<|.lp (X := Nat × Option Addr × Value) [(1,_),(3,_),(44,_),(45,_)] ⟨rfl,rfl,rfl,rfl,trivial⟩ (_ :: []) (fun z => [(46,.int .i64 (z.1 : Nat))]) (fun z => H) (fun z => [.box b [.pointer z.2.1,z.2.2,.int .i64 (1 : Nat)] 112,.row 5 1 z.2.2 ([] ++ lineT 0 [[102,108,101,101,116,32],x.nm,[32,123]] ++ (x.flags.map fgT).flatten ++ ((x.links.take z.1).map lkT).flatten).length (([] ++ lineT 0 [[102,108,101,101,116,32],x.nm,[32,123]] ++ (x.flags.map fgT).flatten ++ ((x.links.take z.1).map lkT).flatten).map byteV)]) (fun z => z.1 ≤ x.links.length ∧ (z.2.1 = none ∨ z.2.1 = some ⟨b,0,none⟩)) (fun z => x.links.length - z.1) (0,a,r) (fun _ s => by have s2 := s;simpa using s2) ⟨rfl,trivial⟩ ⟨by simp,ha⟩ fun z hC => ?_
 obtain ⟨k,a,r⟩ := z
 dsimp only at hC ⊢
 obtain ⟨hk0,ha⟩ := hC
 refine .sr<|.yv (.lss Z Z) Z<|.nt<|.sq<|.cd Z (fun h47 => ?_) (fun h47 => ?_)
 ·try simp only [dt] at h47
  have hk : k < x.links.length := by omega
  obtain ⟨bE,oE,cE,hpE,rE,lE,mE⟩ := hs2.elem (map_at hk)
  cases hpE
  have hle := mflat_take (g := lkT) x.links (k + 1)
  rw [mflat_succ hk,List.length_append] at hle
  generalize hx : x.links[k] = v at rE hle
  obtain ⟨rfl,hn2,hn3⟩ := lk_open rE
  rw [lkT] at hle
  exact .sk<|.tN<|.sq<|.bk<|.sr<|.yv (.indexSl Fx.sl37 Z Z Z (by omega) (q := oE + k * 3) Z) Z<|.yv (.loadMW Z Fx.agg87 mE Z) Z<|.al Fx.zero87 Z fun b7 => .sW .head Z Z Fx.size87 (by simp [Value.oneCell',strV]) Z<|.nt<|.fl (trip := [(_,_,_),(_,_,_),(_,_,_),(_,_,_),(_,_,_),(_,_,_),(_,_,_),(_,_,_),(_,_,_)]) 9 [(0,0),(1,0),(2,0),(3,0),(4,0),(5,0),(6,0),(7,0),(8,1)] (by kernel_rfl) (by kernel_rfl) Z<|.m Z Z<|.yv (.fieldAddr Z Fx.field87_0) Z<|.yv (.load Z Fx.agg9 (.head _) Z) Z<|.yv (.fieldAddr Z Fx.field87_1) Z<|.yv (.load Z Fx.agg9 (.head _) Z) Z<|.yv (.fieldAddr Z Fx.field87_2) Z<|.yv (.load Z Fx.agg3 (.head _) Z) Z<|.yv (.call Fx.call37 Z (fun W s => itoa_any H g _ (by have := v.lat.le_toInt;omega) (by have := v.lat.toInt_lt;omega) W s.agr)) Z<|.bl Z (Fx.bsl66_7 _ _ _ _ _ _ _) Z fun b58 => .fn (tl := [_]) Z<|.cs (X := Value) Fx.call35 Z (fun W s => line_w (parts := [[108,105,110,107,32],v.fr,[32,45,62,32],v.to,[32,108,97,116,101,110,99,121,32],Lib.itoa v.lat.toInt,[59]]) ha (nb Z) (by (try simp only [List.length_append]);omega) (s.pickT (hd := [_,_,_,_,_]) (tl := []) (hd' := [_,_,_,_,_]) [2,3,0,1,4] Z Z)) Z fun r59 _ => .nl<|.bN<|.tN<|.rg<|.yv (.add Z Z (w6 (by omega))) Z<|.m Z Z<|.nt<|.ag (x := (k,a,r)) (k + 1,some ⟨b,0,none⟩,r59) ⟨rfl,trivial⟩ ⟨rfl,rfl,rfl,rfl,trivial⟩ (fun _ s => by have s2 := (s.pickT (hd := [_,_,_,_,_]) (tl := []) (hd' := [_,_,_]) [0,1,4] Z Z);dsimp only;rw [mflat_succ hk,hx,lkT];(try simp only [List.append_assoc] at s2 ⊢);(try simp only [List.cons_append] at s2 ⊢);(try simp only [List.nil_append] at s2 ⊢);(try simp only [List.append_nil] at s2 ⊢);exact s2) ⟨by dsimp only;omega,(.inr Z)⟩ (by dsimp only;omega)
 try simp only [df] at h47
 obtain rfl : k = x.links.length := by omega
 rw [List.take_length]
 refine .ex<|.tE<|.tE<|.bE<|.tN<|.sq<|.sr<|.yv (.fieldAddr Z Fx.field40_3) Z<|.yv (.load Z Fx.agg38 (.tail _<|.tail _<|.head _) Z) Z<|.yv (.lenSl Fx.sl38 Z) Z<|.m Z Z<|.nt<|.bk<|.lp (X := Nat × Option Addr × Value) [(3,_),(62,_),(63,_)] ⟨rfl,rfl,rfl,trivial⟩ (_ :: []) (fun z => [(64,.int .i64 (z.1 : Nat))]) (fun z => H) (fun z => [.box b [.pointer z.2.1,z.2.2,.int .i64 (1 : Nat)] 112,.row 5 1 z.2.2 ([] ++ lineT 0 [[102,108,101,101,116,32],x.nm,[32,123]] ++ (x.flags.map fgT).flatten ++ (x.links.map lkT).flatten ++ ((x.comps.take z.1).map cpT).flatten).length (([] ++ lineT 0 [[102,108,101,101,116,32],x.nm,[32,123]] ++ (x.flags.map fgT).flatten ++ (x.links.map lkT).flatten ++ ((x.comps.take z.1).map cpT).flatten).map byteV)]) (fun z => z.1 ≤ x.comps.length ∧ (z.2.1 = none ∨ z.2.1 = some ⟨b,0,none⟩)) (fun z => x.comps.length - z.1) (0,a,r) (fun _ s => by have s2 := s;simpa using s2) ⟨rfl,trivial⟩ ⟨by simp,ha⟩ fun z hC => ?_
 obtain ⟨k,a,r⟩ := z
 dsimp only at hC ⊢
 obtain ⟨hk0,ha⟩ := hC
 refine .sr<|.yv (.lss Z Z) Z<|.nt<|.sq<|.cd Z (fun h65 => ?_) (fun h65 => ?_)
 ·try simp only [dt] at h65
  have hk : k < x.comps.length := by omega
  obtain ⟨bE,oE,cE,hpE,rE,lE,mE⟩ := hs3.elem (map_at hk)
  cases hpE
  have hle := mflat_take (g := cpT) x.comps (k + 1)
  rw [mflat_succ hk,List.length_append] at hle
  have hf1 := lall_at hk hf
  generalize hx : x.comps[k] = v at rE hle hf1
  exact .sk<|.tN<|.sq<|.bk<|.sr<|.yv (.indexSl Fx.sl38 Z Z Z (by omega) (q := oE + k * 3) Z) Z<|.yv (.loadMW Z Fx.agg80 mE lE) Z<|.al Fx.zero80 Z fun b9 => .sV .head Z Z Fx.size80 lE rE.one Z<|.nt<|.rg<|.m Z Z<|.yv (.loadW Z Fx.agg80 (.head _) lE) Z<|.cs (X := Option Addr × Value) Fx.call38 Z (fun W s => component_any H G g _ _ _ _ _ _ _ _ _ rE hf1 ha (by (try simp only [List.length_append]);omega) (s.pickT (hd := [_,_,_,_]) (tl := []) (hd' := [_,_,_,_]) [1,2,0,3] Z Z)) Z fun z70 hz70 => .nl<|.bN<|.tN<|.rg<|.yv (.add Z Z (w6 (by omega))) Z<|.m Z Z<|.nt<|.ag (x := (k,a,r)) (k + 1,z70.1,z70.2) ⟨rfl,trivial⟩ ⟨rfl,rfl,rfl,trivial⟩ (fun _ s => by have s2 := (s.pickT (hd := [_,_,_,_]) (tl := []) (hd' := [_,_,_]) [0,1,3] Z Z);dsimp only;rw [mflat_succ hk,hx];(try simp only [List.append_assoc] at s2 ⊢);(try simp only [List.cons_append] at s2 ⊢);(try simp only [List.nil_append] at s2 ⊢);(try simp only [List.append_nil] at s2 ⊢);exact s2) ⟨by dsimp only;omega,hz70⟩ (by dsimp only;omega)
 try simp only [df] at h65
 obtain rfl : k = x.comps.length := by omega
 rw [List.take_length]
 refine .ex<|.tE<|.tE<|.bE<|.tN<|.sr<|.m Z Z<|.yv (.nilCheck Z) Z<|.yv (.fieldAddr Z Fx.field112_1) Z<|.yv (.load Z Fx.agg3 (.head _) Z) Z<|.yv (.sub Z Z (c := ((0 : Nat) : Int)) (by decide)) Z<|.yv (.nilCheck Z) Z<|.yv (.fieldAddr Z Fx.field112_1) Z<|.st .head Z Z Fx.size3 Z (nb Z) Z<|.ns<|.m Z Z<|.bl Z (Fx.bsl66_1 _) Z fun b80 => .cs (X := Value) Fx.call35 Z (fun W s => line_w (parts := [[125]]) ha (nb Z) (by (try simp only [List.length_append]);omega) (s.pickT (hd := [_,_,_,_]) (tl := []) (hd' := [_,_,_,_]) [1,2,0,3] Z Z)) Z fun r81 _ => .ns<|.m Z Z<|.yv (.nilCheck Z) Z<|.yv (.fieldAddr Z Fx.field112_0) Z<|.cs (X := Unit) Fx.call39 Z (fun W s => string_w (s.pickT (hd := [_,_,_,_]) (tl := []) (hd' := [_,_]) [0,1] Z Z) (by simp [lineT]) (by (try simp only [List.length_append]);omega)) Z fun _ _ => .a Z Z<|.nt<|.rt<|?_
 exact Sx.ret1 (.inl rfl) rfl (.tmp rfl) fun W s => ⟨by rw [if_pos hck,ftT];simp,s.ext⟩
theorem textE_good {e : Ex} (h : checkE e = 0) : Ex.all frmE e = true ∧ e.text.length ≤ 1000000000 := by
 unfold checkE at h
 split at h
 ·cases h
 split at h
 ·cases h
 split at h
 ·cases h
 rename_i h1 h2 h3
 have := text_len8 (e := e) (by omega) (by simpa using h2) (by simpa using h3)
 exact ⟨by simpa using h3,by omega⟩
theorem ex_len {H : Hp} {k : IntKind} {e : Ex} {cs : List Value} (h : Rep H (dEx k e) cs) : cs.length = 4 := by
 obtain ⟨op,nm,n,args⟩ := e
 obtain ⟨p,c,rfl,_⟩ := ex_open h
 rfl
set_option maxRecDepth 100000 in
theorem printExpr_any (H : Hp) (G : Gl H) (g : Gt H) (e : Ex) (cs : List Value) (h : Rep H (dEx .u8 e) cs) (he : e.depth ≤ 1000000) (w : World) (hA : Agr H w) :
 Calls Tryz.prog 22 #[.agg cs.toArray] w fun r w' => r = .returned (strV (if checkE e = 0 then e.text else [])) ∧ Ext w w' := by
 refine Sx.enter (H := H) Tryz.func22 rfl Tryz.ntmps22 rfl hA ?_
 refine .sr<|.bx Z Z Z fun b1 => .a Z Z<|.nt<|.sq<|.sr<|.yv (.loadW Z Fx.agg60 (.head _) (ex_len h)) Z<|.yv (.call Fx.call51 Z (fun W s => checkExpr_any H G e _ h he W s.agr)) Z<|.yv (.neq Z Z) Z<|.nt<|.cd Z (fun h5 => ?_) (fun h5 => ?_)
 ·try simp only [dt] at h5
  refine .sr<|.a Z Z<|.nt<|.rt<|.tR<|?_
  refine Sx.ret1 (.inl rfl) rfl (.tmp rfl) fun W s => ⟨?_,s.ext⟩
  first
   | (rw [if_neg (by omega)];rfl)
   | (rw [if_pos hck])
 try simp only [df] at h5
 have hck : checkE e = 0 := by simp at h5;omega
 obtain ⟨hf,hl⟩ := textE_good hck
 refine .sk<|.tN<|.sr<|.yv (.loadW Z Fx.agg60 (.head _) (ex_len h)) Z<|.yv (.call Fx.call52 Z (fun W s => text_any H G g e _ W h hf hl s.agr)) Z<|.a Z Z<|.nt<|.rt<|?_
 refine Sx.ret1 (.inl rfl) rfl (.tmp rfl) fun W s => ⟨?_,s.ext⟩
 first
  | (rw [if_neg (by omega)];rfl)
  | (rw [if_pos hck])
theorem Fx.call13 : callN Tryz.prog 13 = Bool.true := by kernel_rfl
theorem Fx.call21 : callN Tryz.prog 21 = Bool.true := by kernel_rfl
theorem Fx.call22 : callN Tryz.prog 22 = Bool.true := by kernel_rfl
theorem Fx.size40 : sizeN Tryz.prog 40 = Option.some 4 := by kernel_rfl
theorem Fx.zero40 : zeroN Tryz.prog 40 = Option.some
 [Go.Value.string { data := { toList := [] } },Go.Value.slice Option.none 0 0,Go.Value.slice Option.none 0 0,
  Go.Value.slice Option.none 0 0] := by kernel_rfl
theorem Fx.bld40_0_1_3 (x0 : ByteArray) (x1p : Option Addr) (x1n x1c : Nat) (x3p : Option Addr) (x3n x3c : Nat) : buildN Tryz.prog 40 [(0,.string x0),(1,.slice x1p x1n x1c),(3,.slice x3p x3n x3c)] = some [.string x0,.slice x1p x1n x1c,.slice none 0 0,.slice x3p x3n x3c] := by kernel_rfl
theorem Fx.bld60_0_1 (x0 : Int) (x1 : ByteArray) : buildN Tryz.prog 60 [(0,.int .u8 x0),(1,.string x1)] = some [.int .u8 x0,.string x1,.int .i64 0,.slice none 0 0] := by kernel_rfl
theorem Fx.bld60_0_2 (x0 : Int) (x2 : Int) : buildN Tryz.prog 60 [(0,.int .u8 x0),(2,.int .i64 x2)] = some [.int .u8 x0,.string ⟨#[]⟩,.int .i64 x2,.slice none 0 0] := by kernel_rfl
theorem Fx.bld60_0_3 (x0 : Int) (x3p : Option Addr) (x3n x3c : Nat) : buildN Tryz.prog 60 [(0,.int .u8 x0),(3,.slice x3p x3n x3c)] = some [.int .u8 x0,.string ⟨#[]⟩,.int .i64 0,.slice x3p x3n x3c] := by kernel_rfl
theorem Fx.bld65_0_1 (x0 : ByteArray) (x1 : Bool) : buildN Tryz.prog 65 [(0,.string x0),(1,.bool x1)] = some [.string x0,.bool x1] := by kernel_rfl
theorem Fx.bld71_0 (x0 : Int) : buildN Tryz.prog 71 [(0,.int .u8 x0)] = some [.int .u8 x0,.string ⟨#[]⟩,.string ⟨#[]⟩,.slice none 0 0,.slice none 0 0,.slice none 0 0] := by kernel_rfl
theorem Fx.bld71_0_3_5 (x0 : Int) (x3p : Option Addr) (x3n x3c : Nat) (x5p : Option Addr) (x5n x5c : Nat) : buildN Tryz.prog 71 [(0,.int .u8 x0),(3,.slice x3p x3n x3c),(5,.slice x5p x5n x5c)] = some [.int .u8 x0,.string ⟨#[]⟩,.string ⟨#[]⟩,.slice x3p x3n x3c,.slice none 0 0,.slice x5p x5n x5c] := by kernel_rfl
theorem Fx.bld73_0_1_2 (x0 : ByteArray) (x1p : Option Addr) (x1n x1c : Nat) (x2p : Option Addr) (x2n x2c : Nat) : buildN Tryz.prog 73 [(0,.string x0),(1,.slice x1p x1n x1c),(2,.slice x2p x2n x2c)] = some [.string x0,.slice x1p x1n x1c,.slice x2p x2n x2c] := by kernel_rfl
theorem Fx.bld76_0 (x0p : Option Addr) (x0n x0c : Nat) : buildN Tryz.prog 76 [(0,.slice x0p x0n x0c)] = some [.slice x0p x0n x0c] := by kernel_rfl
theorem Fx.bld80_0_2 (x0 : ByteArray) (x2p : Option Addr) (x2n x2c : Nat) : buildN Tryz.prog 80 [(0,.string x0),(2,.slice x2p x2n x2c)] = some [.string x0,.slice none 0 0,.slice x2p x2n x2c] := by kernel_rfl
theorem Fx.bsl36_1 (x00 x01 : Value) : bslN Tryz.prog 36 1 [(0,.agg [x00,x01].toArray)] = some (65,[x00,x01]) := by kernel_rfl
theorem Fx.bsl38_1 (x00 x01 x02 : Value) : bslN Tryz.prog 38 1 [(0,.agg [x00,x01,x02].toArray)] = some (80,[x00,x01,x02]) := by kernel_rfl
theorem Fx.bsl58_1 (x00 x01 x02 x03 : Value) : bslN Tryz.prog 58 1 [(0,.agg [x00,x01,x02,x03].toArray)] = some (60,[x00,x01,x02,x03]) := by kernel_rfl
theorem Fx.bsl58_2 (x00 x01 x02 x03 : Value) (x10 x11 x12 x13 : Value) : bslN Tryz.prog 58 2 [(0,.agg [x00,x01,x02,x03].toArray),(1,.agg [x10,x11,x12,x13].toArray)] = some (60,[x00,x01,x02,x03,x10,x11,x12,x13]) := by kernel_rfl
theorem Fx.bsl69_1 (x00 x01 x02 x03 x04 x05 : Value) : bslN Tryz.prog 69 1 [(0,.agg [x00,x01,x02,x03,x04,x05].toArray)] = some (71,[x00,x01,x02,x03,x04,x05]) := by kernel_rfl
theorem Fx.bsl74_1 (x00 x01 x02 : Value) : bslN Tryz.prog 74 1 [(0,.agg [x00,x01,x02].toArray)] = some (73,[x00,x01,x02]) := by kernel_rfl
theorem Fx.bsl77_1 (x00 : Value) : bslN Tryz.prog 77 1 [(0,.agg [x00].toArray)] = some (76,[x00]) := by kernel_rfl
theorem eqSt {P : Program} {L : Sl} {H : Hp} {w0 : World} {bs : List Res} {d : Option Tmp} {ty : TypeId} {pos : String} {aft : Array Edge} {g : Option (Nat × Bool)} {x y : Operand} {T T' : TypeId} {a : Str} (hx : ev L x = some (strV a)) (hy : ev L y = some (strV a)) : Yl P L H w0 bs ⟨d,.binOp .eql T x y T',ty,pos,aft,g⟩ (.bool true) :=
 (Yl.eqS hx hy).cast (by rw [decide_eq_true rfl])
def awS : Sm := .mk 8 [] [] [(.mk 5 [120] 0 []),(.mk 1 [] 1 [])] [] [.mk 10 [] [] [] [] []]
def awF : Ft := ⟨[112],[⟨[102],true⟩],[],[⟨[99],[],[[⟨[104],[[120]],[awS]⟩]]⟩]⟩
def awT : Str := [102,108,101,101,116,32,112,32,123,10,32,32,102,108,97,103,32,102,32,61,32,116,114,117,101,59,10,32,32,99,111,109,112,111,110,101,110,116,32,99,32,123,10,32,32,32,32,111,110,32,104,40,120,41,32,123,10,32,32,32,32,32,32,115,116,111,114,101,32,120,32,61,32,49,32,101,108,115,101,32,123,10,32,32,32,32,32,32,32,32,115,116,111,112,59,10,32,32,32,32,32,32,125,10,32,32,32,32,125,10,32,32,125,10,125,10]
def awE : Ex := .mk 11 [] 0 [.mk 14 [] 0 [(.mk 5 [97] 0 []),(.mk 1 [] 1 [])],.mk 9 [] 0 [.mk 15 [] 0 [(.mk 5 [98] 0 []),(.mk 5 [99] 0 [])]]]
def awU : Str := [40,97,32,43,32,49,41,32,42,32,45,40,98,32,45,32,99,41]
theorem itoa1 : Lib.itoa 1 = [49] := by rw [Lib.itoa,if_neg (by decide)];exact Lib.decDigits_one (by decide)
theorem awF_check : checkF awF = 0 := by decide +kernel
theorem awF_ok : evH okH awF = true := by decide +kernel
theorem awE_check : checkE awE = 0 := by decide +kernel
theorem awE_depth : awE.depth ≤ 1000000 := by decide +kernel
theorem awE_text : awE.text = awU := by
 have h : Ex.text (.mk 1 [] 1 []) = [49] := by rw [text_mk,txt,if_pos rfl];exact itoa1
 have hs : Ex.texts [(.mk 5 [97] 0 []),(.mk 1 [] 1 [])] = [(7,[97]),(7,[49])] := by rw [Ex.texts,Ex.texts,Ex.texts,h];rfl
 rw [awE,Ex.text,Ex.texts,Ex.text,hs];decide +kernel
theorem awS_text : Sm.texts 3 [awS] = [32,32,32,32,32,32,115,116,111,114,101,32,120,32,61,32,49,32,101,108,115,101,32,123,10,32,32,32,32,32,32,32,32,115,116,111,112,59,10,32,32,32,32,32,32,125,10] := by
 have h : Ex.text (.mk 1 [] 1 []) = [49] := by rw [text_mk,txt,if_pos rfl];exact itoa1
 rw [awS,Sm.texts,stext_mk,List.map_cons,List.map_cons,h];decide +kernel
theorem awF_text : ftT awF = awT := by
 simp only [ftT,awF,List.map_cons,List.map_nil,cpT,vssT,vsT,if_true,hdsT,hdT]
 rw [show (2 : Nat) + 1 = 3 from rfl,awS_text];decide +kernel
set_option maxRecDepth 100000 in
theorem name_any (H : Hp) (l : Str) (w : World) (hA : Agr H w) : Calls Tryz.prog 21 #[strV l] w fun r w' => r = .returned (.agg [.int .u8 (5 : UInt8).toNat,strV l,.int .i64 (0 : Int64).toInt,.slice none 0 0].toArray) ∧ Ext w w' := by
 refine Sx.enter (H := H) Tryz.func21 rfl Tryz.ntmps21 rfl hA ?_
 refine .sr<|.al Fx.zero60 Z fun b2 => .ns<|.m Z Z<|.yv (.build Z (Fx.bld60_0_1 _ _)) Z<|.sW .head Z Z Fx.size60 (by simp [Value.oneCell',strV]) Z<|.nt<|.rt<|?_
 exact Sx.ret1 (.inl rfl) rfl (.cell rfl Fx.agg60 (.head _) rfl) fun W s => ⟨rfl,s.ext⟩
theorem check_aw {H : Hp} (G : Gl H) {cs : List Value} (h : Rep H (dFt .u8 awF) cs) (w : World) (hA : Agr H w) : Calls Tryz.prog 9 #[.agg cs.toArray] w fun r w' => r = .returned (.int .i64 0) ∧ Ext w w' :=
 (check_any H G awF cs h awF_ok w hA).mono fun _ _ ⟨he,hx⟩ => ⟨by rw [he,awF_check];rfl,hx⟩
theorem print_aw {H : Hp} (G : Gl H) (g : Gt H) {cs : List Value} (h : Rep H (dFt .u8 awF) cs) (w : World) (hA : Agr H w) : Calls Tryz.prog 13 #[.agg cs.toArray] w fun r w' => r = .returned (strV awT) ∧ Ext w w' :=
 (print_any H G g awF cs h awF_ok (fun _ => by rw [awF_text];decide) w hA).mono fun _ _ ⟨he,hx⟩ => ⟨by rw [he,if_pos awF_check,awF_text],hx⟩
theorem printE_aw {H : Hp} (G : Gl H) (g : Gt H) {cs : List Value} (h : Rep H (dEx .u8 awE) cs) (w : World) (hA : Agr H w) : Calls Tryz.prog 22 #[.agg cs.toArray] w fun r w' => r = .returned (strV awU) ∧ Ext w w' :=
 (printExpr_any H G g awE cs h awE_depth w hA).mono fun _ _ ⟨he,hx⟩ => ⟨by rw [he,if_pos awE_check,awE_text],hx⟩
set_option maxRecDepth 100000 in
theorem awake_any (H : Hp) (G : Gl H) (g : Gt H) (w : World) (hA : Agr H w) : Calls Tryz.prog 7 #[] w fun r w' => r = .returned (.bool true) ∧ Ext w w' := by
 refine Sx.enter (H := H) Tryz.func7 rfl Tryz.ntmps7 rfl hA ?_
 refine .sr<|.a Z Z<|.ns<|.yv (.build Z (Fx.bld65_0_1 _ _)) Z<|.bl Z (Fx.bsl36_1 _ _) Z fun b4 => .bl Z (Fx.bsl66_1 _) Z fun b5 => .yv (.call Fx.call21 Z (fun W s => name_any _ [120] W s.agr)) Z<|.yv (.build Z (Fx.bld60_0_2 _ _)) Z<|.bl Z (Fx.bsl58_2 _ _ _ _ _ _ _ _) Z fun b8 => .yv (.build Z (Fx.bld71_0 _)) Z<|.bl Z (Fx.bsl69_1 _ _ _ _ _ _) Z fun b10 => .yv (.build Z (Fx.bld71_0_3_5 _ _ _ _ _ _ _)) Z<|.bl Z (Fx.bsl69_1 _ _ _ _ _ _) Z fun b12 => .yv (.build Z (Fx.bld73_0_1_2 _ _ _ _ _ _ _)) Z<|.bl Z (Fx.bsl74_1 _ _ _) Z fun b14 => .yv (.build Z (Fx.bld76_0 _ _ _)) Z<|.bl Z (Fx.bsl77_1 _) Z fun b16 => .yv (.build Z (Fx.bld80_0_2 _ _ _ _)) Z<|.bl Z (Fx.bsl38_1 _ _ _) Z fun b18 => .yv (.build Z (Fx.bld40_0_1_3 _ _ _ _ _ _ _)) Z<|.al Fx.zero40 Z fun b1 => .sW .head Z Z Fx.size40 (by simp [Value.oneCell',strV]) Z<|.ns<|.yv (.call Fx.call21 Z (fun W s => name_any _ [97] W s.agr)) Z<|.yv (.build Z (Fx.bld60_0_2 _ _)) Z<|.bl Z (Fx.bsl58_2 _ _ _ _ _ _ _ _) Z fun b22 => .yv (.build Z (Fx.bld60_0_3 _ _ _ _)) Z<|.yv (.call Fx.call21 Z (fun W s => name_any _ [98] W s.agr)) Z<|.yv (.call Fx.call21 Z (fun W s => name_any _ [99] W s.agr)) Z<|.bl Z (Fx.bsl58_2 _ _ _ _ _ _ _ _) Z fun b26 => .yv (.build Z (Fx.bld60_0_3 _ _ _ _)) Z<|.bl Z (Fx.bsl58_1 _ _ _ _) Z fun b28 => .yv (.build Z (Fx.bld60_0_3 _ _ _ _)) Z<|.bl Z (Fx.bsl58_2 _ _ _ _ _ _ _ _) Z fun b30 => .yv (.build Z (Fx.bld60_0_3 _ _ _ _)) Z<|.al Fx.zero60 Z fun b2 => .sW .head Z Z Fx.size60 (by simp [Value.oneCell',strV]) Z<|?_
 refine At.pm [13,12,11,10,9,8,7,6,4,3,2,1,5,0] [_,_,_,_,_,_,_,_,_,_,_,_,_,_] rfl rfl ?_
 refine Sx.freezeBox fun H1 u1 m4 => ?_
 refine Sx.freezeBox fun H2 u2 m5 => ?_
 refine Sx.freezeBox fun H3 u3 m8 => ?_
 refine Sx.freezeBox fun H4 u4 m10 => ?_
 refine Sx.freezeBox fun H5 u5 m12 => ?_
 refine Sx.freezeBox fun H6 u6 m14 => ?_
 refine Sx.freezeBox fun H7 u7 m16 => ?_
 refine Sx.freezeBox fun H8 u8 m18 => ?_
 refine Sx.freezeBox fun H9 u9 m22 => ?_
 refine Sx.freezeBox fun H10 u10 m26 => ?_
 refine Sx.freezeBox fun H11 u11 m28 => ?_
 refine Sx.freezeBox fun H12 u12 m30 => ?_
 have v12 : Up H12 H12 := Up.refl _
 have v11 : Up H11 H12 := u12.up.trans v12
 have v10 : Up H10 H12 := u11.up.trans v11
 have v9 : Up H9 H12 := u10.up.trans v10
 have v8 : Up H8 H12 := u9.up.trans v9
 have v7 : Up H7 H12 := u8.up.trans v8
 have v6 : Up H6 H12 := u7.up.trans v7
 have v5 : Up H5 H12 := u6.up.trans v6
 have v4 : Up H4 H12 := u5.up.trans v5
 have v3 : Up H3 H12 := u4.up.trans v4
 have v2 : Up H2 H12 := u3.up.trans v3
 have v1 : Up H1 H12 := u2.up.trans v2
 have v0 : Up H H12 := u1.up.trans v1
 have rF := ft_shut (k := .u8) (x := awF) (by decide) (Rep.mk (n := 1) (c := 1) (m4.up v1) (.single (fg_shut (by decide)) rfl) rfl (Nat.le_refl _) (by decide)) (Rep.empty (p := none) (c := 0) (by decide)) (Rep.mk (n := 1) (c := 1) (m18.up v8) (.single (cp_shut (x := ⟨[99],[],[[⟨[104],[[120]],[awS]⟩]]⟩) (by decide) (Rep.empty (p := none) (c := 0) (by decide)) (Rep.mk (n := 1) (c := 1) (m16.up v7) (.single (Rep.mk (n := 1) (c := 1) (m14.up v6) (.single (hd_shut (x := ⟨[104],[[120]],[awS]⟩) (by decide) (Rep.mk (n := 1) (c := 1) (m5.up v2) (.single (str_shut (by decide)) rfl) rfl (Nat.le_refl _) (by decide)) (Rep.mk (n := 1) (c := 1) (m12.up v5) (.single (sm_shut (kd := 8) (nm := []) (hd := []) (th := []) (by decide) (by decide) (Rep.mk (n := 2) (c := 2) (m8.up v3) (RepZ.app (RepZ.single (ex_shut (op := 5) (nm := [120]) (n := 0) (args := []) (by decide) (Rep.empty (p := none) (c := 0) (by decide))) rfl) (RepZ.single (ex_shut (op := 1) (nm := []) (n := 1) (args := []) (by decide) (Rep.empty (p := none) (c := 0) (by decide))) rfl)) rfl (Nat.le_refl _) (by decide)) (Rep.empty (p := none) (c := 0) (by decide)) (Rep.mk (n := 1) (c := 1) (m10.up v4) (.single (sm_shut (kd := 10) (nm := []) (hd := []) (ex := []) (th := []) (el := []) (by decide) (by decide) (Rep.empty (p := none) (c := 0) (by decide)) (Rep.empty (p := none) (c := 0) (by decide)) (Rep.empty (p := none) (c := 0) (by decide))) rfl) rfl (Nat.le_refl _) (by decide))) rfl) rfl (Nat.le_refl _) (by decide))) rfl) rfl (Nat.le_refl _) (by decide)) rfl) rfl (Nat.le_refl _) (by decide))) rfl) rfl (Nat.le_refl _) (by decide))
 have rE : Rep H12 (dEx .u8 awE) _ := (ex_shut (op := 11) (nm := []) (n := 0) (args := [.mk 14 [] 0 [.mk 5 [97] 0 [],.mk 1 [] 1 []],.mk 9 [] 0 [.mk 15 [] 0 [.mk 5 [98] 0 [],.mk 5 [99] 0 []]]]) (by decide) (Rep.mk (n := 2) (c := 2) (m30.up v12) (RepZ.app (RepZ.single (ex_shut (op := 14) (nm := []) (n := 0) (args := [.mk 5 [97] 0 [],.mk 1 [] 1 []]) (by decide) (Rep.mk (n := 2) (c := 2) (m22.up v9) (RepZ.app (RepZ.single (ex_shut (op := 5) (nm := [97]) (n := 0) (args := []) (by decide) (Rep.empty (p := none) (c := 0) (by decide))) rfl) (RepZ.single (ex_shut (op := 1) (nm := []) (n := 1) (args := []) (by decide) (Rep.empty (p := none) (c := 0) (by decide))) rfl)) rfl (Nat.le_refl _) (by decide))) rfl) (RepZ.single (ex_shut (op := 9) (nm := []) (n := 0) (args := [.mk 15 [] 0 [.mk 5 [98] 0 [],.mk 5 [99] 0 []]]) (by decide) (Rep.mk (n := 1) (c := 1) (m28.up v11) (.single (ex_shut (op := 15) (nm := []) (n := 0) (args := [.mk 5 [98] 0 [],.mk 5 [99] 0 []]) (by decide) (Rep.mk (n := 2) (c := 2) (m26.up v10) (RepZ.app (RepZ.single (ex_shut (op := 5) (nm := [98]) (n := 0) (args := []) (by decide) (Rep.empty (p := none) (c := 0) (by decide))) rfl) (RepZ.single (ex_shut (op := 5) (nm := [99]) (n := 0) (args := []) (by decide) (Rep.empty (p := none) (c := 0) (by decide))) rfl)) rfl (Nat.le_refl _) (by decide))) rfl) rfl (Nat.le_refl _) (by decide))) rfl)) rfl (Nat.le_refl _) (by decide)))
 refine .ns<|.yv (.loadW Z Fx.agg40 (.head _) Z) Z<|.yv (.call Fx.call9 Z (fun W s => check_aw (G.up v0) rF W s.agr)) Z<|.yv (.eql Z Z) Z<|.m Z Z<|.gd Z Z<|.yv (.loadW Z Fx.agg40 (.head _) Z) Z<|.gd Z Z<|.yv (.call Fx.call13 Z (fun W s => print_aw (G.up v0) (g.up v0) rF W s.agr)) Z<|.gd Z Z<|.yv (eqSt (a := awT) Z Z) Z<|.yv (.pickT Z Z) Z<|.m Z Z<|.gd Z Z<|.yv (.loadW Z Fx.agg60 (.tail _<|.head _) Z) Z<|.gd Z Z<|.yv (.call Fx.call22 Z (fun W s => printE_aw (G.up v0) (g.up v0) rE W s.agr)) Z<|.gd Z Z<|.yv (eqSt (a := awU) Z Z) Z<|.yv (.pickT Z Z) Z<|.a Z Z<|.nt<|.rt<|?_
 exact Sx.ret1 (.inl rfl) rfl (.tmp rfl) fun W s => ⟨rfl,s.ext⟩
structure Nd where
 op : UInt8
 nm : UInt8
 ct : UInt8
 odd : Bool
 n : Int64
def dNd (x : Nd) : D := .str [.val (.int .u8 x.op.toNat),.val (.int .u8 x.nm.toNat),.val (.int .u8 x.ct.toNat),.val (.bool x.odd),.val (.int .i64 x.n.toInt)]
def cNd (x : Nd) : List Value := [.int .u8 x.op.toNat,.int .u8 x.nm.toNat,.int .u8 x.ct.toNat,.bool x.odd,.int .i64 x.n.toInt]
theorem nd_open {H : Hp} {x : Nd} {cs : List Value} (h : Rep H (dNd x) cs) : cs = cNd x := by
 rw [dNd,repS] at h
 obtain ⟨_,rfl,_,_,h⟩ := repL_val.1 h
 obtain ⟨_,rfl,_,_,h⟩ := repL_val.1 h
 obtain ⟨_,rfl,_,_,h⟩ := repL_val.1 h
 obtain ⟨_,rfl,_,_,h⟩ := repL_val.1 h
 obtain ⟨_,rfl,_,_,h⟩ := repL_val.1 h
 rw [repL_nil] at h
 subst h
 rfl
theorem rep_drop {H : Hp} {z b off n c lo : Nat} {ds : List D} (h : Rep H (.seq z ds) [.slice (some ⟨b,off,none⟩) n c]) (hl : lo ≤ n) : Rep H (.seq z (ds.drop lo)) [.slice (some (if c = lo then ⟨b,off,none⟩ else ⟨b,off + lo * z,none⟩)) (n - lo) (c - lo)] := by
 have hn := h.len
 by_cases hc : c = lo
 ·rw [if_pos hc]
  rw [show ds.drop lo = [] from List.drop_of_length_le (by omega),show n - lo = 0 by omega]
  exact .empty (by omega)
 ·rw [if_neg hc]
  unfold Rep at h
  obtain ⟨p',c',h1,h2,h3,h4⟩ := h
  injection h1 with h1 _
  injection h1 with h5 h6 h7
  subst h5 h7
  rcases h4 with h4 | ⟨b',off',cs,h8,h9,h10⟩
  ·subst h4
   rw [List.drop_nil,show n - lo = 0 by simp only [List.length_nil] at h6;omega]
   exact .empty (by omega)
  ·cases h8
   exact .mk (h9.drop (lo * z)) (h10.drop lo) (by rw [List.length_drop];omega) (by omega) (by omega)
def wordsR : List Str := [[97],[98],[120,48],[116,48],[102,95,49],[97,98,99,100,101,102,103,104,105,106,107,108],[110,111,119],[],[97,98,99,100,101,102,103,104,105,106,107,108,109],[95,120],[120,45,121]]
def wordR (n : UInt8) : Str := wordsR.getD (n.toNat % 11) []
theorem word_len (n : UInt8) : (wordR n).length ≤ 13 := by
 have key : ∀ i ∈ List.range 11,(wordsR.getD i []).length ≤ 13 := by decide
 exact key _ (List.mem_range.2 (Nat.mod_lt _ (by omega)))
def arR (k : Nat) : Int := if k < 1 ∨ 23 < k then -1 else if k ≤ 5 ∨ k = 8 then 0 else if k = 6 ∨ k = 7 ∨ k = 9 ∨ k = 10 then 1 else 2
theorem arR_bnd (k : Nat) : -1 ≤ arR k ∧ arR k ≤ 2 := by unfold arR;split <;> (try split) <;> (try split) <;> omega
def narrow (e : Ex) : Bool := decide (e.args.length ≤ 3)
theorem narrow_mk (op : UInt8) (nm : Str) (n : Int64) (args : List Ex) : narrow (.mk op nm n args) = decide (args.length ≤ 3) := rfl
theorem Fx.bsl66_11 (x0 : ByteArray) (x1 : ByteArray) (x2 : ByteArray) (x3 : ByteArray) (x4 : ByteArray) (x5 : ByteArray) (x6 : ByteArray) (x7 : ByteArray) (x8 : ByteArray) (x9 : ByteArray) (x10 : ByteArray) : bslN Tryz.prog 66 11 [(0,.string x0),(1,.string x1),(2,.string x2),(3,.string x3),(4,.string x4),(5,.string x5),(6,.string x6),(7,.string x7),(8,.string x8),(9,.string x9),(10,.string x10)] = some (9,[.string x0,.string x1,.string x2,.string x3,.string x4,.string x5,.string x6,.string x7,.string x8,.string x9,.string x10]) := by kernel_rfl
set_option maxRecDepth 100000 in
theorem word_any (H : Hp) (n : UInt8) (w : World) (hA : Agr H w) : Calls Tryz.prog 53 #[.int .u8 n.toNat] w fun r w' => r = .returned (strV (wordR n)) ∧ Ext w w' := by
 refine Sx.enter (H := H) Tryz.func53 rfl Tryz.ntmps53 rfl hA ?_
 refine .sr<|.a Z Z<|.ns<|.bl Z (Fx.bsl66_11 _ _ _ _ _ _ _ _ _ _ _) Z fun b3 => .m Z Z<|.yv (.rem Z Z (by decide) (c := ((n.toNat % 11 : Nat) : Int)) (by rw [Int.tmod_eq_emod_of_nonneg (by omega)];omega)) Z<|.yv (.indexSl Fx.sl66 Z Z (i := n.toNat % 11) Z (Nat.mod_lt _ (by omega)) (q := n.toNat % 11) (by omega)) Z<|.yv (.load (v := strV (wordR n)) Z Fx.agg9 (.head _) (strs_at (es := wordsR) (Nat.mod_lt _ (by show 0 < 11;omega)))) Z<|.a Z Z<|.nt<|.rt<|?_
 exact Sx.ret1 (.inl rfl) rfl (.tmp rfl) fun W s => ⟨rfl,s.ext⟩
set_option maxRecDepth 100000 in
theorem arity_any (H : Hp) (k : Nat) (w : World) (hA : Agr H w) : Calls Tryz.prog 86 #[.int .i64 (k : Nat)] w fun r w' => r = .returned (.int .i64 (arR k)) ∧ Ext w w' := by
 refine Sx.enter (H := H) Tryz.func86 rfl Tryz.ntmps86 rfl hA ?_
 refine .sr<|.a Z Z<|.nt<|.sq<|.bk<|.sr<|.m Z Z<|.yv (.lss Z Z) Z<|.m Z Z<|.b2 (fun h6 => ?_) (fun h6 => ?_)
 ·try simp only [dt] at h6
  refine .gF Z Z Z Z<|.gF Z Z Z Z<|.yv (.pickT Z Z) Z<|.a Z Z<|.nt<|.cT Z<|.sr<|.a Z Z<|.nt<|.rt<|.bR<|.tR<|?_
  refine Sx.ret1 (.inl rfl) rfl (.tmp rfl) fun W s => ⟨?_,s.ext⟩
  first
   | (rw [arR];simp_all <;> omega)
   | (rw [arR];simp_all;omega)
   | (congr 1;congr 1;rw [arR];simp_all <;> omega)
 try simp only [df] at h6
 refine .gd Z Z<|.yv (.move Z) Z<|.gd Z Z<|.yv (.gtr Z Z) Z<|.yv (.pickF Z Z) Z<|.a Z Z<|.nt<|.cd Z (fun h3 => ?_) (fun h3 => ?_)
 ·skip
  refine .sr<|.a Z Z<|.nt<|.rt<|.bR<|.tR<|?_
  refine Sx.ret1 (.inl rfl) rfl (.tmp rfl) fun W s => ⟨?_,s.ext⟩
  first
   | (rw [arR];simp_all <;> omega)
   | (rw [arR];simp_all;omega)
   | (congr 1;congr 1;rw [arR];simp_all <;> omega)
 skip
 refine .sr<|.m Z Z<|.yv (.leq Z Z) Z<|.m Z Z<|.b2 (fun h13 => ?_) (fun h13 => ?_)
 ·try simp only [dt] at h13
  refine .gF Z Z Z Z<|.gF Z Z Z Z<|.yv (.pickT Z Z) Z<|.a Z Z<|.nt<|.cT Z<|.sr<|.a Z Z<|.nt<|.rt<|.bR<|.tR<|?_
  refine Sx.ret1 (.inl rfl) rfl (.tmp rfl) fun W s => ⟨?_,s.ext⟩
  first
   | (rw [arR];simp_all <;> omega)
   | (rw [arR];simp_all;omega)
   | (congr 1;congr 1;rw [arR];simp_all <;> omega)
 try simp only [df] at h13
 refine .gd Z Z<|.yv (.move Z) Z<|.gd Z Z<|.yv (.eql Z Z) Z<|.yv (.pickF Z Z) Z<|.a Z Z<|.nt<|.cd Z (fun h10 => ?_) (fun h10 => ?_)
 ·skip
  refine .sr<|.a Z Z<|.nt<|.rt<|.bR<|.tR<|?_
  refine Sx.ret1 (.inl rfl) rfl (.tmp rfl) fun W s => ⟨?_,s.ext⟩
  first
   | (rw [arR];simp_all <;> omega)
   | (rw [arR];simp_all;omega)
   | (congr 1;congr 1;rw [arR];simp_all <;> omega)
 skip
 refine .sr<|.m Z Z<|.yv (.eql Z Z) Z<|.m Z Z<|.b2 (fun h20 => ?_) (fun h20 => ?_)
 ·try simp only [dt] at h20
  refine .gF Z Z Z Z<|.gF Z Z Z Z<|.yv (.pickT Z Z) Z<|.m Z Z<|.gF Z Z Z Z<|.gF Z Z Z Z<|.yv (.pickT Z Z) Z<|.m Z Z<|.gF Z Z Z Z<|.gF Z Z Z Z<|.yv (.pickT Z Z) Z<|.a Z Z<|.nt<|.cT Z<|.sr<|.a Z Z<|.nt<|.rt<|.bR<|.tR<|?_
  refine Sx.ret1 (.inl rfl) rfl (.tmp rfl) fun W s => ⟨?_,s.ext⟩
  first
   | (rw [arR];simp_all <;> omega)
   | (rw [arR];simp_all;omega)
   | (congr 1;congr 1;rw [arR];simp_all <;> omega)
 try simp only [df] at h20
 refine .gd Z Z<|.yv (.move Z) Z<|.gd Z Z<|.yv (.eql Z Z) Z<|.yv (.pickF Z Z) Z<|.m Z Z<|.b2 (fun h24 => ?_) (fun h24 => ?_)
 ·try simp only [dt] at h24
  refine .gF Z Z Z Z<|.gF Z Z Z Z<|.yv (.pickT Z Z) Z<|.m Z Z<|.gF Z Z Z Z<|.gF Z Z Z Z<|.yv (.pickT Z Z) Z<|.a Z Z<|.nt<|.cT Z<|.sr<|.a Z Z<|.nt<|.rt<|.bR<|.tR<|?_
  refine Sx.ret1 (.inl rfl) rfl (.tmp rfl) fun W s => ⟨?_,s.ext⟩
  first
   | (rw [arR];simp_all <;> omega)
   | (rw [arR];simp_all;omega)
   | (congr 1;congr 1;rw [arR];simp_all <;> omega)
 try simp only [df] at h24
 refine .gd Z Z<|.yv (.move Z) Z<|.gd Z Z<|.yv (.eql Z Z) Z<|.yv (.pickF Z Z) Z<|.m Z Z<|.b2 (fun h28 => ?_) (fun h28 => ?_)
 ·try simp only [dt] at h28
  refine .gF Z Z Z Z<|.gF Z Z Z Z<|.yv (.pickT Z Z) Z<|.a Z Z<|.nt<|.cT Z<|.sr<|.a Z Z<|.nt<|.rt<|.bR<|.tR<|?_
  refine Sx.ret1 (.inl rfl) rfl (.tmp rfl) fun W s => ⟨?_,s.ext⟩
  first
   | (rw [arR];simp_all <;> omega)
   | (rw [arR];simp_all;omega)
   | (congr 1;congr 1;rw [arR];simp_all <;> omega)
 try simp only [df] at h28
 refine .gd Z Z<|.yv (.move Z) Z<|.gd Z Z<|.yv (.eql Z Z) Z<|.yv (.pickF Z Z) Z<|.a Z Z<|.nt<|.cd Z (fun h17 => ?_) (fun h17 => ?_)
 ·skip
  refine .sr<|.a Z Z<|.nt<|.rt<|.bR<|.tR<|?_
  refine Sx.ret1 (.inl rfl) rfl (.tmp rfl) fun W s => ⟨?_,s.ext⟩
  first
   | (rw [arR];simp_all <;> omega)
   | (rw [arR];simp_all;omega)
   | (congr 1;congr 1;rw [arR];simp_all <;> omega)
 skip
 refine .sk<|.bN<|.tN<|.sr<|.a Z Z<|.nt<|.rt<|?_
 refine Sx.ret1 (.inl rfl) rfl (.tmp rfl) fun W s => ⟨?_,s.ext⟩
 first
  | (rw [arR];simp_all <;> omega)
  | (rw [arR];simp_all;omega)
  | (congr 1;congr 1;rw [arR];simp_all <;> omega)
theorem Fx.call19 : callN Tryz.prog 19 = Bool.true := by kernel_rfl
theorem Fx.field51_0 : fieldN Tryz.prog 51 0 = Option.some 0 := by kernel_rfl
theorem Fx.field51_1 : fieldN Tryz.prog 51 1 = Option.some 1 := by kernel_rfl
theorem Fx.field51_2 : fieldN Tryz.prog 51 2 = Option.some 2 := by kernel_rfl
theorem Fx.int3 : intN Tryz.prog 3 = Option.some Go.IntKind.i64 := by kernel_rfl
theorem Fx.int57 : intN Tryz.prog 57 = Option.some Go.IntKind.u8 := by kernel_rfl
theorem Fx.row58 : rowN Tryz.prog 58 = Option.some (60,4,56) := by kernel_rfl
theorem Fx.size58 : sizeN Tryz.prog 58 = Option.some 1 := by kernel_rfl
theorem Fx.bld60_0_1_2 (x0 : Int) (x1 : ByteArray) (x2 : Int) : buildN Tryz.prog 60 [(0,.int .u8 x0),(1,.string x1),(2,.int .i64 x2)] = some [.int .u8 x0,.string x1,.int .i64 x2,.slice none 0 0] := by kernel_rfl
def ExprOf (e : Ex) : Prop := Ex.all narrow e = true → ∀ (H : Hp) (cs : List Value) (w : World),Rep H (dEx .i64 e) cs → Agr H w →
 Calls Tryz.prog 19 #[.agg cs.toArray] w fun r w' => ∃ x H',Rep H' (dEx .u8 e) x ∧ r = .returned (.agg x.toArray) ∧ Grow H w H' w'
set_option maxRecDepth 100000 in
theorem expr_any (e : Ex) : ExprOf e := by
 induction e using Ex.ind with | _ op nm nn args ih
 intro hnr H cs w h hA
 rw [all_mk,Bool.and_eq_true,narrow_mk,decide_eq_true_eq] at hnr
 obtain ⟨p,c,rfl,hs,hnm⟩ := ex_open h
 have hcap := hs.cap
 have hn3 := hnr.1
 refine Sx.enter (H := H) Tryz.func19 rfl Tryz.ntmps19 rfl hA ?_
 refine .sr<|.bx Z Z Z fun b1 => .al Fx.zero60 Z fun b2 => ?_
 refine Sx.row0 60 4 ?_
 refine .ns<|.yv (.fieldAddr Z Fx.field51_0) Z<|.yv (.load Z Fx.agg3 (.tail _<|.tail _<|.head _) Z) Z<|.yv (.conv Z Fx.int3 Fx.int57 (c := (op.toNat : Nat)) (by have := op.toNat_lt;simp only [IntKind.wrap,IntKind.signed,IntKind.bits];simp;omega)) Z<|.yv (.fieldAddr Z Fx.field51_1) Z<|.yv (.load Z Fx.agg9 (.tail _<|.tail _<|.head _) Z) Z<|.yv (.fieldAddr Z Fx.field51_2) Z<|.yv (.load Z Fx.agg2 (.tail _<|.tail _<|.head _) Z) Z<|.yv (.build Z (Fx.bld60_0_1_2 _ _ _)) Z<|.al Fx.zero60 Z fun b3 => .sW .head Z Z Fx.size60 (by simp [Value.oneCell',strV]) Z<|.nt<|.sq<|.sr<|.yv (.fieldAddr Z Fx.field51_3) Z<|.yv (.load Z Fx.agg49 (.tail _<|.tail _<|.tail _<|.head _) Z) Z<|.yv (.lenSl Fx.sl49 Z) Z<|.m Z Z<|.nt<|.bk<|.lp (X := Nat × Hp × Value × List Value) [(2,_),(3,_),(15,_),(16,_)] ⟨rfl,rfl,rfl,rfl,trivial⟩ [_,_] (fun z => [(17,.int .i64 (z.1 : Nat))]) (fun z => z.2.1) (fun z => [.box b3 [.int .u8 op.toNat,strV nm,.int .i64 nn.toInt,z.2.2.1] 60,.row 60 4 z.2.2.1 z.1 z.2.2.2]) (fun z => z.1 ≤ args.length ∧ HUp w H z.2.1 ∧ RepZ z.2.1 4 ((args.take z.1).map (dEx .u8)) z.2.2.2) (fun z => args.length - z.1) (0,H,.slice none 0 0,[]) (fun _ s => s) ⟨rfl,trivial⟩ ⟨by simp,.refl,RepZ.nil⟩ fun z hC => ?_
 obtain ⟨k,H1,r,xs⟩ := z
 dsimp only at hC ⊢
 obtain ⟨hk0,u1,hz⟩ := hC
 refine .sr<|.yv (.lss Z Z) Z<|.nt<|.sq<|.cd Z (fun h18 => ?_) (fun h18 => ?_)
 ·try simp only [dt] at h18
  have hk : k < args.length := by omega
  obtain ⟨bE,oE,cE,hpE,rE,lE,mE⟩ := (hs.up u1.up).elem (map_at hk)
  cases hpE
  have hnr1 := lalls_at hk hnr.2
  refine .sk<|.tN<|.sq<|.bk<|.sr<|.yv (.indexSl Fx.sl49 Z Z Z (by omega) (q := oE + k * 4) Z) Z<|.yv (.loadMW Z Fx.agg51 mE lE) Z<|.al Fx.zero51 Z fun b5 => .sV .head Z Z Fx.size51 lE rE.one Z<|.nt<|.fl (trip := [(_,_,_),(_,_,_),(_,_,_),(_,_,_),(_,_,_)]) 5 [(0,0),(1,0),(2,0),(3,1),(4,1)] (by kernel_rfl) (by kernel_rfl) Z<|.yv (.fieldAddr Z Fx.field60_3) Z<|.yv (.load Z Fx.agg58 (.tail _<|.head _) Z) Z<|.yv (.loadW Z Fx.agg51 (.head _) lE) Z<|.ct (X := List Value) Fx.call19 Z (fun W s => ih _ (List.getElem_mem hk) hnr1 H1 cE W rE s.agr) Z fun x2 H2 hc2 u2 => ?_
  generalize hx : args[k] = x at hc2
  obtain ⟨op2,nm2,n2,args2⟩ := x
  obtain ⟨p2,c2,rfl,hs2,hnm2⟩ := ex_open hc2
  refine .bl Z (Fx.bsl58_1 _ _ _ _) Z fun b25 => .fn (tl := [_,_,_]) Z<|.ap (news := [.int .u8 op2.toNat,strV nm2,.int .i64 n2.toInt,.slice p2 args2.length c2]) Fx.row58 Z (fun _ => (.tail<|.tail<|.tail<|.head)) Z (.box (.head _) z0) Z (by simp [Value.oneCell',strV]) (by simp [maxLen];omega) (by omega) Z fun r26 _ => ?_
  refine At.ra (.tail _ (.tail _ (.tail _ (.head _)))) fun p26 c26 e26 => ?_
  exact .yv (.fieldAddr Z Fx.field60_3) Z<|.st (.tail<|.tail<|.head) Z Z Fx.size58 (by rw [e26];rfl) (nb Z) Z<|.nl<|.bN<|.tN<|.rg<|.yv (.add Z Z (w6 (by omega))) Z<|.m Z Z<|.nt<|.ag (x := (k,H1,r,xs)) (k + 1,H2,r26,xs ++ [.int .u8 op2.toNat,strV nm2,.int .i64 n2.toInt,.slice p2 args2.length c2]) ⟨rfl,trivial⟩ ⟨rfl,rfl,rfl,rfl,trivial⟩ (fun _ s => (s.pick [2,3,4,5] _ Z Z)) ⟨by dsimp only;omega,u1.trans u2,by dsimp only;rw [take_snoc hk,hx,List.map_append];exact (hz.up u2.up).snoc hc2 Z⟩ (by dsimp only;omega)
 try simp only [df] at h18
 obtain rfl : k = args.length := by omega
 rw [List.take_length] at hz
 refine At.ra (.tail _ (.head _)) fun p26 c26 e26 => ?_
 subst e26
 refine .ex<|.tE<|.tE<|.bE<|.tN<|.sr<|.yv (.loadW Z Fx.agg60 (.head _) Z) Z<|.sW (.tail<|.tail<|.head) Z Z Fx.size60 (by simp [Value.oneCell',strV]) Z<|.nt<|.rt<|?_
 refine At.pm [1,2] [_,_] rfl rfl ?_
 refine Sx.freezeSeq (ds := args.map (dEx .u8)) (by simp) hz fun H3 p3 c3 u3 hr3 hs3 => ?_
 refine Sx.ret1 (.inl rfl) rfl (.cell rfl Fx.agg60 (.head _) rfl) fun W s => ⟨_,H3,ex_shut hnm hs3,rfl,(u1.trans u3).grow s⟩
end Go.Proofs.YtmbiojpcidccjaaGreatDoor
namespace Go.Sx
open Go.RowKit Go.Par
section
variable {P : Program} {n : Nat} {L : Sl} {H : Hp} {w0 : World} {bs : List Res} {Q : Exit → Act → World → Prop} {ops : Array Oper} {K : Act → World → Prop}
def exN (K : Act → World → Prop) (Q : Exit → Act → World → Prop) : Exit → Act → World → Prop := fun e => match e with | .normal => K | e => Q e
theorem At.ar {id : Nat} {l : List Oper} (m : Nat) (l0 : Array Bool) (hm : P.follows .mixedOrders = true) (hn : l.toArray.size = m) (h0 : Array.replicate m false = l0)
 (h : At n L H w0 bs (wpAny P .any l.toArray Q m l0)) : At n L H w0 bs ((Code.region id l.toArray true).wp P Q) := anyRegion m l0 hm hn h0 h
theorem At.an {fuel : Nat} {listed : Array Bool} (x : Nat) (rs : List Nat) (hr : Region.ready .any ops listed = x :: rs)
 (h : AllIn (fun i => At n L H w0 bs (wpOp P ops Q i (wpAny P .any ops Q fuel (listed.setIfInBounds i true)))) (x :: rs)) : At n L H w0 bs (wpAny P .any ops Q (fuel + 1) listed) := anyStep x rs hr h
theorem one_exN {o : Oper} {a : Act} {w : World} (h : one P ops (exN K Q) o K a w) : one P ops Q o K a w := by
 unfold one at *
 split at h <;> rename_i hw
 ·rw [if_pos hw];exact h
 ·rw [if_neg hw];exact h
theorem At.ao {fuel i : Nat} {listed : Array Bool} {o : Oper} (l' : Array Bool) (ho : ops[i]? = some o) (hl : listed.setIfInBounds i true = l') (h : At n L H w0 bs (wpList P ops (exN (wpAny P .any ops Q fuel l') Q) [o])) :
 At n L H w0 bs (wpOp P ops Q i (wpAny P .any ops Q fuel (listed.setIfInBounds i true))) := anyOp l' ho hl fun a W f s => one_exN (h a W f s)
theorem At.nx (h : At n L H w0 bs K) : At n L H w0 bs (wpList P ops (exN K Q) []) := nil h
theorem At.ae {listed : Array Bool} (hr : Region.ready .any ops listed = []) (h : At n L H w0 bs (Q .normal)) : At n L H w0 bs (wpAny P .any ops Q 0 listed) := anyEnd hr h
theorem Yl.cutHi2 {d : Option Tmp} {ty : TypeId} {pos : String} {aft : Array Edge} {g : Option (Nat × Bool)} {x y : Operand} {T : TypeId} {p : Option Addr} {len c z h : Nat} {k : IntKind} {i : Int} (hT : slN P T = some z) (hx : ev L x = some (.slice p len c)) (hy : ev L y = some (.int k i)) (e : i = (h : Int)) (hh : h ≤ c) :
 Yl P L H w0 bs ⟨d,.slice T x none (some y) none,ty,pos,aft,g⟩ (.slice (if c = 0 then p else p.map fun q => q.add 0) h c) := .of_run fun a W f _ => by
 subst e
 obtain ⟨el,hu,hz⟩ := slN_spec hT
 unfold execOp
 simp [f x _ hx,f y _ hy,Instr.sliceAt,Instr.slice,underlying,program,Sem.run,Result.andThen,hu,Instr.sliceBounds,Instr.sliceBound,asIntOf,hh,run_sizeOf hz]
theorem rep_take2 {z n c hi : Nat} {ds : List D} {p : Option Addr} (h : Rep H (.seq z ds) [.slice p n c]) (hl : hi ≤ n) : Rep H (.seq z (ds.take hi)) [.slice (if c = 0 then p else p.map fun q => q.add 0) hi c] := by
 have hn := h.len
 by_cases hc : c = 0
 ·have h0 : ds = [] := List.eq_nil_of_length_eq_zero (by omega)
  rw [if_pos hc,h0,List.take_nil,show hi = 0 by omega]
  exact .empty (by omega)
 rw [if_neg hc]
 unfold Rep at h
 obtain ⟨p',c',h1,h2,h3,h4⟩ := h
 injection h1 with h1 _
 injection h1 with h5 h6 h7
 subst h5 h7
 rcases h4 with h4 | ⟨b',off',cs,rfl,h9,h10⟩
 ·subst h4
  obtain rfl : hi = 0 := by simp only [List.length_nil] at h6;omega
  exact .empty (by omega)
 ·exact .mk (h9.take (hi * z)) (h10.take hi) (by rw [List.length_take];omega) (by omega) (by omega)
end
end Go.Sx
namespace Go.Proofs.YtmbiojpcidccjaaGreatDoor
open Go.RowKit Go.Par Go.Sx
theorem Fx.agg5 : aggN Tryz.prog 5 = Option.some Option.none := by kernel_rfl
theorem Fx.agg173 : aggN Tryz.prog 173 = Option.some (Option.some 5) := by kernel_rfl
theorem Fx.call49 : callN Tryz.prog 49 = Bool.true := by kernel_rfl
theorem Fx.call53 : callN Tryz.prog 53 = Bool.true := by kernel_rfl
theorem Fx.call86 : callN Tryz.prog 86 = Bool.true := by kernel_rfl
theorem Fx.field173_0 : fieldN Tryz.prog 173 0 = Option.some 0 := by kernel_rfl
theorem Fx.field173_1 : fieldN Tryz.prog 173 1 = Option.some 1 := by kernel_rfl
theorem Fx.field173_2 : fieldN Tryz.prog 173 2 = Option.some 2 := by kernel_rfl
theorem Fx.field173_3 : fieldN Tryz.prog 173 3 = Option.some 3 := by kernel_rfl
theorem Fx.field173_4 : fieldN Tryz.prog 173 4 = Option.some 4 := by kernel_rfl
theorem Fx.int5 : intN Tryz.prog 5 = Option.some Go.IntKind.u8 := by kernel_rfl
theorem Fx.row49 : rowN Tryz.prog 49 = Option.some (51,4,56) := by kernel_rfl
theorem Fx.size2 : sizeN Tryz.prog 2 = Option.some 1 := by kernel_rfl
theorem Fx.size49 : sizeN Tryz.prog 49 = Option.some 1 := by kernel_rfl
theorem Fx.size173 : sizeN Tryz.prog 173 = Option.some 5 := by kernel_rfl
theorem Fx.sl53 : slN Tryz.prog 53 = Option.some 5 := by kernel_rfl
theorem Fx.zero173 : zeroN Tryz.prog 173 = Option.some
 [Go.Value.int Go.IntKind.u8 (Int.ofNat 0),Go.Value.int Go.IntKind.u8 (Int.ofNat 0),
  Go.Value.int Go.IntKind.u8 (Int.ofNat 0),Go.Value.bool Bool.false,Go.Value.int Go.IntKind.i64 (Int.ofNat 0)] := by kernel_rfl
theorem Fx.bld51_0 (x0 : Int) : buildN Tryz.prog 51 [(0,.int .i64 x0)] = some [.int .i64 x0,.string ⟨#[]⟩,.int .i64 0,.slice none 0 0] := by kernel_rfl
theorem Fx.bld51_0_2 (x0 : Int) (x2 : Int) : buildN Tryz.prog 51 [(0,.int .i64 x0),(2,.int .i64 x2)] = some [.int .i64 x0,.string ⟨#[]⟩,.int .i64 x2,.slice none 0 0] := by kernel_rfl
theorem Fx.bsl49_1 (x00 x01 x02 x03 : Value) : bslN Tryz.prog 49 1 [(0,.agg [x00,x01,x02,x03].toArray)] = some (51,[x00,x01,x02,x03]) := by kernel_rfl
end Go.Proofs.YtmbiojpcidccjaaGreatDoor
