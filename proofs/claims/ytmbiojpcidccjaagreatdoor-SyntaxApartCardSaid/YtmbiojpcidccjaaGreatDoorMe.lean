/- Texts of the proof, one behind the other. -/
import Derived.Test.YtmbiojpcidccjaaGreatDoorMd
set_option linter.all false
namespace Go.Proofs.YtmbiojpcidccjaaGreatDoor
open Go.RowKit Go.Par Go.Sx
abbrev Bs := List UInt8
def dU8 (c : UInt8) : D := .val (.int .u8 c.toNat)
def dNat (n : Nat) : D := .val (.int .i64 (n : Nat))
def dAr (l : List Nat) : D := .seq 1 (l.map dNat)
structure Mk where
 ints : Nat
 tables : Nat
 flags : Nat
 own : Nat
 ars : List (List Nat)
 params : Nat
def nextB (b : Bs) (n : Nat) : Nat × Bs := match b with | [] => (0,[]) | c :: r => (c.toNat % n,r)
theorem nextB_lt (b : Bs) {n : Nat} (h : 0 < n) : (nextB b n).1 < n := by
 cases b with
 | nil => exact h
 | cons c r => exact Nat.mod_lt _ h
def nmB (c : UInt8) (k : Nat) : Str := [c,UInt8.ofNat (48 + k)]
def namesB (c : UInt8) (n : Nat) : List Str := (List.range n).map (nmB c)
theorem namesB_succ (c : UInt8) (n : Nat) : namesB c (n + 1) = namesB c n ++ [nmB c n] := by simp [namesB,List.range_succ]
theorem namesB_len (c : UInt8) (n : Nat) : (namesB c n).length = n := by simp [namesB]
theorem namesB_at {c : UInt8} {n k : Nat} (h : k < n) : (namesB c n)[k]? = some (nmB c k) := by simp [namesB,h]
def numT (M : Mk) (d : Nat) (rec : Bs → Ex × Bs) (k : Nat) (b : Bs) : Ex × Bs :=
 if k < 2 ∨ (2 < d ∧ 5 < k) then (.mk 1 [] (Int64.ofNat (nextB b 9).1) [],(nextB b 9).2)
 else if k < 4 ∨ (k = 4 ∧ M.params = 0) then (.mk 5 (nmB 120 (nextB b M.ints).1) 0 [],(nextB b M.ints).2)
 else if k = 4 then (.mk 5 (nmB 112 (nextB b M.params).1) 0 [],(nextB b M.params).2)
 else if k = 5 then (.mk 4 [] 0 [],b)
 else if k = 6 ∧ 0 < M.tables then (.mk 6 [116,48] 0 [(rec b).1],(rec b).2)
 else if k = 7 ∧ 0 < M.tables then (.mk 8 [116,48] 0 [],b)
 else if k = 8 then (.mk 9 [] 0 [(rec b).1],(rec b).2)
 else (.mk (([14,15,11,12,13,14] : List UInt8).getD (nextB b 6).1 14) [] 0 [(rec (nextB b 6).2).1,(rec (rec (nextB b 6).2).2).1],(rec (rec (nextB b 6).2).2).2)
def numS (M : Mk) (d : Nat) (rec : Bs → Ex × Bs) (b0 : Bs) : Ex × Bs := numT M d rec (nextB b0 12).1 (nextB b0 12).2
def numE (M : Mk) : Nat → Bs → Ex × Bs
 | 0 => numS M 3 fun b => (.mk 1 [] 0 [],b)
 | f + 1 => numS M (2 - f) (numE M f)
def numL (M : Mk) : Nat → Bs → List Ex × Bs
 | 0,b => ([],b)
 | n + 1,b => ((numE M 2 b).1 :: (numL M n (numE M 2 b).2).1,(numL M n (numE M 2 b).2).2)
def truT (M : Mk) (d : Nat) (rec : Bs → Ex × Bs) (k : Nat) (b : Bs) : Ex × Bs :=
 if k = 0 then (.mk (2 + UInt8.ofNat (nextB b 2).1) [] 0 [],(nextB b 2).2)
 else if k = 1 ∨ (1 < d ∧ 4 < k) then (.mk 5 [98,48] 0 [],b)
 else if k = 2 ∧ 0 < M.flags then (.mk 5 (nmB 102 (nextB b M.flags).1) 0 [],(nextB b M.flags).2)
 else if k = 3 ∧ 0 < M.tables then (.mk 7 [116,48] 0 [(numE M 2 b).1],(numE M 2 b).2)
 else if k = 5 then (.mk 10 [] 0 [(rec b).1],(rec b).2)
 else if k = 6 ∨ k = 7 then (.mk (16 + UInt8.ofNat k) [] 0 [(rec b).1,(rec (rec b).2).1],(rec (rec b).2).2)
 else (.mk (16 + UInt8.ofNat (nextB b 6).1) [] 0 [(numE M 2 (nextB b 6).2).1,(numE M 2 (numE M 2 (nextB b 6).2).2).1],(numE M 2 (numE M 2 (nextB b 6).2).2).2)
def truS (M : Mk) (d : Nat) (rec : Bs → Ex × Bs) (b0 : Bs) : Ex × Bs := truT M d rec (nextB b0 10).1 (nextB b0 10).2
def truE (M : Mk) : Nat → Bs → Ex × Bs
 | 0 => truS M 2 fun b => (.mk 1 [] 0 [],b)
 | f + 1 => truS M (1 - f) (truE M f)
def arN (M : Mk) (c h : Nat) : Nat := (M.ars.getD c []).getD h 0
def arL (M : Mk) (c : Nat) : Nat := (M.ars.getD c []).length
def senT (M : Mk) (lf c h : Nat) (b : Bs) : Sm × (Bs × Nat) := (.mk 6 [UInt8.ofNat (97 + c)] (nmB 104 h) (numL M (arN M c h) b).1 [] [],((numL M (arN M c h) b).2,lf))
def aftT (M : Mk) (lf h : Nat) (e : Ex × Bs) : Sm × (Bs × Nat) := (.mk 7 [] (nmB 104 h) (e.1 :: (numL M (arN M M.own h) e.2).1) [] [],((numL M (arN M M.own h) e.2).2,lf))
def fetT (bd : Bs × Nat → List Sm × (Bs × Nat)) (lf x : Nat) (e : Ex × Bs) : Sm × (Bs × Nat) := (.mk 9 (nmB 120 x) [] [e.1] [] (bd (e.2,lf)).1,(bd (e.2,lf)).2)
def asgT (M : Mk) (lf : Nat) (b : Bs) : Sm × (Bs × Nat) := (.mk 1 (nmB 120 (nextB b M.ints).1) [] [(numE M 3 (nextB b M.ints).2).1] [] [],((numE M 3 (nextB b M.ints).2).2,lf))
def stmT (M : Mk) (k d : Nat) (bd : Bs × Nat → List Sm × (Bs × Nat)) (b : Bs) (lf : Nat) : Sm × (Bs × Nat) :=
 if k = 2 then (.mk 1 [98,48] [] [(truE M 2 b).1] [] [],((truE M 2 b).2,lf))
 else if k = 3 ∧ 0 < M.tables then (.mk 2 [116,48] [] [(numE M 3 b).1,(numE M 3 (numE M 3 b).2).1] [] [],((numE M 3 (numE M 3 b).2).2,lf))
 else if k = 4 ∧ 0 < M.tables then (.mk 3 [116,48] [] [(numE M 3 b).1] [] [],((numE M 3 b).2,lf))
 else if (k = 5 ∨ k = 6) ∧ d < 3 then
  (.mk 4 [] [] [(truE M 2 b).1] (bd ((truE M 2 b).2,lf)).1 (bd (bd ((truE M 2 b).2,lf)).2).1,(bd (bd ((truE M 2 b).2,lf)).2).2)
 else if k = 7 ∧ d < 2 then (.mk 5 [] [] [(truE M 2 b).1] (bd ((truE M 2 b).2,lf)).1 [],(bd ((truE M 2 b).2,lf)).2)
 else if k = 8 ∨ k = 9 then senT M lf (nextB b M.ars.length).1 (nextB (nextB b M.ars.length).2 (arL M (nextB b M.ars.length).1)).1 (nextB (nextB b M.ars.length).2 (arL M (nextB b M.ars.length).1)).2
 else if k = 10 then aftT M lf (nextB b (arL M M.own)).1 (numE M 2 (nextB b (arL M M.own)).2)
 else if k = 11 ∧ d < 3 then
  if (nextB b 2).1 = 0 then (.mk 8 [] [] (numL M 2 (nextB b 2).2).1 [] (bd ((numL M 2 (nextB b 2).2).2,lf)).1,(bd ((numL M 2 (nextB b 2).2).2,lf)).2)
  else fetT bd lf (nextB (nextB b 2).2 M.ints).1 (numE M 3 (nextB (nextB b 2).2 M.ints).2)
 else if k = 12 ∧ (nextB b 3).1 = 0 then (.mk 10 [] [] [] [] [],((nextB b 3).2,lf))
 else asgT M lf (if k = 12 then (nextB b 3).2 else b)
def bodL (st : Nat → Bs → Nat → Sm × (Bs × Nat)) : Nat → Bs × Nat → List Sm × (Bs × Nat)
 | 0,x => ([],x)
 | f + 1,(b,lf) =>
  if b = [] ∨ lf = 0 then ([],(b,lf))
  else if (nextB b 14).1 = 13 then ([],((nextB b 14).2,lf))
  else ((st (nextB b 14).1 (nextB b 14).2 (lf - 1)).1 :: (bodL st f (st (nextB b 14).1 (nextB b 14).2 (lf - 1)).2).1,(bodL st f (st (nextB b 14).1 (nextB b 14).2 (lf - 1)).2).2)
def bodE (M : Mk) : Nat → Bs × Nat → List Sm × (Bs × Nat)
 | 0 => bodL (fun k => stmT M k 3 fun x => ([],x)) 13
 | f + 1 => bodL (fun k => stmT M k (2 - f) (bodE M f)) 13
structure Cd where
 ps : UInt8
 bytes : Bs
def dCd (c : Cd) : D := .str [.val (.int .u8 c.ps.toNat),.seq 1 (c.bytes.map dU8)]
theorem cd_open {H : Hp} {x : Cd} {cs : List Value} (h : Rep H (dCd x) cs) : ∃ p c,cs = [.int .u8 x.ps.toNat,.slice p x.bytes.length c] ∧ Rep H (.seq 1 (x.bytes.map dU8)) [.slice p x.bytes.length c] := by
 rw [dCd,repS] at h
 obtain ⟨_,rfl,_,_,h⟩ := repL_val.1 h
 obtain ⟨p,c,_,rfl,hs,h⟩ := repL_seq.1 h
 rw [repL_nil] at h
 subst h
 rw [List.length_map] at hs ⊢
 exact ⟨p,c,rfl,hs⟩
def Mk.at (M : Mk) (k : Nat) : Mk := { M with params := arN M M.own k }
def hdS (M : Mk) (k : Nat) (c : Cd) : Hd := ⟨nmB 104 k,namesB 112 (arN M M.own k),(bodE (M.at k) 3 (c.bytes.take 40,12)).1⟩
def hdsP (M : Mk) : Nat → List Cd → List Hd
 | _,[] => []
 | k,c :: r => hdS M k c :: hdsP M (k + 1) r
theorem hdsP_app (M : Mk) : ∀ (a : List Cd) (k : Nat) (b : List Cd),hdsP M k (a ++ b) = hdsP M k a ++ hdsP M (k + a.length) b
 | [],k,b => by simp [hdsP]
 | c :: r,k,b => by
  simp only [List.cons_append,hdsP,hdsP_app M r (k + 1) b,List.length_cons]
  rw [show k + 1 + r.length = k + (r.length + 1) by omega]
theorem hdsP_succ {M : Mk} {l : List Cd} {k : Nat} (h : k < l.length) : hdsP M 0 (l.take (k + 1)) = hdsP M 0 (l.take k) ++ [hdS M k l[k]] := by
 rw [take_snoc h,hdsP_app,List.length_take,Nat.min_eq_left (by omega)];simp [hdsP]
theorem hdsP_len (M : Mk) : ∀ (l : List Cd) (k : Nat),(hdsP M k l).length = l.length
 | [],_ => rfl
 | c :: r,k => by simp [hdsP,hdsP_len M r (k + 1)]
def mkC (M : Mk) (arV bv : Value) (left : Int) : List Value := [.int .i64 (M.ints : Nat),.int .i64 (M.tables : Nat),.int .i64 (M.flags : Nat),.int .i64 (M.own : Nat),arV,.int .i64 (M.params : Nat),bv,.int .i64 left]
set_option maxRecDepth 100000 in
theorem least_any (H : Hp) (a b : Nat) (w : World) (hA : Agr H w) : Calls Tryz.prog 40 #[.int .i64 (a : Nat),.int .i64 (b : Nat)] w fun r w' => r = .returned (.int .i64 ((min a b : Nat) : Int)) ∧ Ext w w' := by
 refine Sx.enter (H := H) Tryz.func40 rfl Tryz.ntmps40 rfl hA ?_
 refine .sr<|.a Z Z<|.nt<|.sq<|.sr<|.m Z Z<|.m Z Z<|.yv (.lss Z Z) Z<|.nt<|.cd Z (fun h7 => ?_) (fun h7 => ?_)
 ·try simp only [dt] at h7
  refine .sr<|.m Z Z<|.a Z Z<|.nt<|.rt<|.tR<|?_
  refine Sx.ret1 (.inl rfl) rfl (.tmp rfl) fun W s => ⟨?_,s.ext⟩
  first
   | (rw [Nat.min_eq_left (by omega)])
   | (rw [Nat.min_eq_right (by omega)])
 try simp only [df] at h7
 refine .sk<|.tN<|.sr<|.m Z Z<|.a Z Z<|.nt<|.rt<|?_
 refine Sx.ret1 (.inl rfl) rfl (.tmp rfl) fun W s => ⟨?_,s.ext⟩
 first
  | (rw [Nat.min_eq_left (by omega)])
  | (rw [Nat.min_eq_right (by omega)])
set_option maxRecDepth 100000 in
theorem names_any (H : Hp) (c : UInt8) (n : Nat) (hn : n ≤ 100) (w : World) (hA : Agr H w) : Calls Tryz.prog 41 #[.int .u8 c.toNat,.int .i64 (n : Nat)] w fun r w' => ∃ (v : Value) (H' : Hp),Rep H' (.seq 1 ((namesB c n).map dStr)) [v] ∧ r = .returned v ∧ Grow H w H' w' := by
 refine Sx.enter (H := H) Tryz.func41 rfl Tryz.ntmps41 rfl hA ?_
 refine .sr<|.a Z Z<|.ns<|.a Z Z<|?_
 refine Sx.row0 9 1 ?_
 refine .nt<|.sq<|.sr<|.a Z Z<|.nt<|.bk<|.lp (X := Nat × Value × List Value) [(0,_),(1,_)] ⟨rfl,rfl,trivial⟩ [] (fun z => [(5,z.2.1),(6,.int .i64 (z.1 : Nat))]) (fun z => H) (fun z => [.row 9 1 z.2.1 z.1 z.2.2]) (fun z => z.1 ≤ n ∧ RepZ H 1 ((namesB c z.1).map dStr) z.2.2) (fun z => n - z.1) (0,.slice none 0 0,[]) (fun _ s => s) ⟨rfl,rfl,trivial⟩ ⟨by omega,RepZ.nil⟩ fun z hC => ?_
 obtain ⟨k,r,xs⟩ := z
 dsimp only at hC ⊢
 obtain ⟨hk0,hz⟩ := hC
 refine .sq<|.sr<|.m Z Z<|.m Z Z<|.yv (.lss Z Z) Z<|.nt<|.cd Z (fun h9 => ?_) (fun h9 => ?_)
 ·try simp only [dt] at h9
  have hk : k < n := by omega
  exact .sk<|.tN<|.sq<|.bk<|.rg<|.m Z Z<|.m Z Z<|.m Z Z<|.yv (.add Z Z (c := ((48 + k : Nat) : Int)) ((w6 (by omega)).trans (by omega))) Z<|.yv (.conv Z Fx.int3 Fx.int5 (c := (((UInt8.ofNat (48 + k)).toNat : Nat) : Int)) (by rw [show ((UInt8.ofNat (48 + k)).toNat : Int) = ((48 + k : Nat) : Int) by simp [UInt8.toNat_ofNat'];omega];simp only [IntKind.wrap,IntKind.signed,IntKind.bits];simp;omega)) Z<|.bl Z (Fx.bsl22_2 _ _) Z fun b17 => .yv (.bytesStr (l := nmB c k) Fx.bytes22 Fx.str9 Z Z (.box (.head _) z0)) Z<|.bl Z (Fx.bsl66_1 _) Z fun b19 => .ap (news := [strV (nmB c k)]) Fx.row66 Z (fun _ => (.tail<|.tail<|.head)) Z (.box (.head _) z0) Z (by simp [Value.oneCell',strV]) (by simp [maxLen];omega) (by omega) Z fun r20 _ => .a Z Z<|.nl<|.bN<|.tN<|.rg<|.m Z Z<|.yv (.add Z Z (w6 (by omega))) Z<|.a Z Z<|.nt<|.ag (x := (k,r,xs)) (k + 1,r20,xs ++ [strV (nmB c k)]) ⟨rfl,rfl,trivial⟩ ⟨rfl,rfl,trivial⟩ (fun _ s => (s.pick [2] _ Z Z)) ⟨by dsimp only;omega,by dsimp only;rw [namesB_succ,List.map_append];exact hz.snoc (str_shut (by simp [nmB])) Z⟩ (by dsimp only;omega)
 try simp only [df] at h9
 obtain rfl : k = n := by omega
 refine .ex<|.tE<|.tE<|.bE<|.tN<|.sr<|.m Z Z<|.a Z Z<|.nt<|.rt<|?_
 refine At.pm [0] [_] rfl rfl ?_
 refine Sx.freezeSeq (ds := (namesB c k).map dStr) (by simp [namesB_len]) hz fun H3 p3 c3 u3 hr3 hs3 => ?_
 exact Sx.ret1 (.inl rfl) rfl (.tmp rfl) fun W t => ⟨r,H3,hs3,rfl,u3.grow t⟩
theorem u8_open {H : Hp} {c : UInt8} {cs : List Value} (h : Rep H (dU8 c) cs) : cs = [.int .u8 c.toNat] := by unfold dU8 Rep at h;exact h.1
set_option maxRecDepth 100000 in
theorem next_st {H : Hp} {w0 W : World} {bs : List Res} {b : Nat} {M : Mk} {arV bv : Value} {left : Int} {by_ : Bs} (n : Nat) (hn : 0 < n) (hb : Rep H (.seq 1 ((by_).map dU8)) [bv]) (s : St H w0 (.box b (mkC M arV bv left) 126 :: bs) W) :
 Calls Tryz.prog 112 #[.pointer (some ⟨b,0,none⟩),.int .i64 (n : Nat)] W fun e W' => ∃ z : Value,Rep H (.seq 1 (((nextB by_ n).2).map dU8)) [z] ∧ e = .returned (.int .i64 ((nextB by_ n).1 : Nat)) ∧ St H w0 (.box b (mkC M arV z left) 126 :: bs) W' := by
 obtain ⟨p,c,e,hlen,_⟩ := hb.sl
 simp only [List.cons.injEq,and_true,List.length_map] at e
 subst e
 rw [List.length_map] at hlen
 have hcap := hb.cap
 refine Sx.enterS Tryz.func112 rfl Tryz.ntmps112 rfl s ?_
 refine .sr<|.a Z Z<|.nt<|.sq<|.sr<|.m Z Z<|.yv (.nilCheck Z) Z<|.yv (.fieldAddr Z Fx.field126_6) Z<|.yv (.load Z Fx.agg22 (.head _) Z) Z<|.yv (.lenSl Fx.sl22 Z) Z<|.yv (.eql Z Z) Z<|.nt<|.cd Z (fun h11 => ?_) (fun h11 => ?_)
 ·try simp only [dt] at h11
  have h0 : by_ = [] := List.eq_nil_of_length_eq_zero (by omega)
  subst h0
  refine .sr<|.a Z Z<|.nt<|.rt<|.tR<|?_
  exact Sx.ret1 (.inl rfl) rfl (.tmp rfl) fun W t => ⟨_,hb,rfl,t⟩
 try simp only [df] at h11
 obtain ⟨bE,oE,cE,hpE,rE,lE,mE⟩ := hb.elem (map_at (f := dU8) (show 0 < by_.length by omega))
 subst hpE
 obtain rfl := u8_open rE
 obtain ⟨cB,rB,hby⟩ : ∃ cB rB,by_ = cB :: rB := by
  match by_,hlen with
  | [],_ => simp at h11
  | cB :: rB,_ => exact ⟨cB,rB,rfl⟩
 subst hby
 simp only [List.getElem_cons_zero] at mE
 refine .sk<|.tN<|.sr<|.m Z Z<|.yv (.nilCheck Z) Z<|.yv (.fieldAddr Z Fx.field126_6) Z<|.yv (.load Z Fx.agg22 (.head _) Z) Z<|.yv (.indexSl Fx.sl22 Z Z (i := 0) Z (by omega) (q := oE + 0 * 1) (by omega)) Z<|.yv (.loadM Z Fx.agg5 mE (k := 0) Z Z) Z<|.yv (.conv Z Fx.int5 Fx.int3 (c := ((cB.toNat : Nat) : Int)) (w64 (by have := cB.toNat_lt;omega) (by have := cB.toNat_lt;omega))) Z<|.a Z Z<|.ns<|.m Z Z<|.m Z Z<|.yv (.nilCheck Z) Z<|.yv (.fieldAddr Z Fx.field126_6) Z<|.yv (.load Z Fx.agg22 (.head _) Z) Z<|.yv (.cutLo Fx.sl22 Z Z (lo := 1) Z (by omega) hb.len.2.1) Z<|.yv (.nilCheck Z) Z<|.yv (.fieldAddr Z Fx.field126_6) Z<|.st (l' := mkC M arV _ left) .head Z Z Fx.size22 Z (nb Z) Z<|.ns<|.m Z Z<|.m Z Z<|.yv (.rem Z Z (by omega) (c := ((cB.toNat % n : Nat) : Int)) (by rw [Int.tmod_eq_emod_of_nonneg (by omega)];omega)) Z<|.a Z Z<|.nt<|.rt<|?_
 exact Sx.ret1 (.inl rfl) rfl (.tmp rfl) fun W t => ⟨_,rep_drop hb (lo := 1) (by omega),rfl,t⟩
def okM (M : Mk) : Prop := 0 < M.ints ∧ M.ints ≤ 3 ∧ M.params ≤ 2 ∧ M.flags ≤ 2
theorem name_at {H : Hp} {c : UInt8} {n k cp : Nat} {p : Option Addr} (h : Rep H (.seq 1 ((namesB c n).map dStr)) [.slice p n cp]) (hk : k < n) : ∃ b o,p = some ⟨b,o,none⟩ ∧ MemAt H b (o + k * 1) [strV (nmB c k)] := by
 obtain ⟨b,o,cs,e,r,l,m⟩ := h.elem (i := k) (d := dStr (nmB c k)) (by rw [List.getElem?_map,namesB_at hk];rfl)
 obtain ⟨rfl,_⟩ := str_open r
 exact ⟨b,o,e,m⟩
set_option maxRecDepth 100000 in
theorem integer_st {H : Hp} {w0 W : World} {bs : List Res} {b : Nat} {M : Mk} {arV bv : Value} {left : Int} {by_ : Bs} (hM : okM M) (hb : Rep H (.seq 1 ((by_).map dU8)) [bv]) (s : St H w0 (.box b (mkC M arV bv left) 126 :: bs) W) :
 Calls Tryz.prog 137 #[.pointer (some ⟨b,0,none⟩)] W fun e W' => ∃ z : Value × Hp,(HUp w0 H z.2 ∧ Rep z.2 (.seq 1 (((nextB by_ M.ints).2).map dU8)) [z.1]) ∧ e = .returned (strV (nmB 120 (nextB by_ M.ints).1)) ∧ St z.2 w0 (.box b (mkC M arV z.1 left) 126 :: bs) W' := by
 refine Sx.enterS Tryz.func137 rfl Tryz.ntmps137 rfl s ?_
 refine .sr<|.a Z Z<|.nt<|.sq<|.fl (trip := [(_,_,_),(_,_,_),(_,_,_),(_,_,_),(_,_,_),(_,_,_),(_,_,_),(_,_,_),(_,_,_)]) 9 [(1,0),(2,0),(3,0),(4,0),(5,0),(0,1),(6,2),(7,0),(8,0)] (by kernel_rfl) (by kernel_rfl) Z<|.m Z Z<|.m Z Z<|.yv (.nilCheck Z) Z<|.yv (.fieldAddr Z Fx.field126_0) Z<|.yv (.load Z Fx.agg3 (.head _) Z) Z<|.ct (X := Value) Fx.call41 Z (fun W s => names_any H 120 3 (by omega) W s.agr) Z fun v3 H3 hn3 u3 => ?_
 obtain ⟨pn3,cn3,e3,_⟩ := hn3.sl
 simp only [List.cons.injEq,and_true,List.length_map,namesB_len] at e3
 subst e3
 obtain ⟨bE,oE,hpE,mE⟩ := name_at hn3 (k := (nextB by_ M.ints).1) (by have := nextB_lt by_ hM.1;have := hM.2.1;omega)
 subst hpE
 refine .cs (X := Value) Fx.call112 Z (fun W s => next_st M.ints hM.1 (hb.up u3.up)  (s.pickT (hd := [_]) (tl := bs) (hd' := [_]) [0] Z Z)) Z fun z9 hz9 => .yv (.indexSl Fx.sl66 Z Z (i := (nextB by_ M.ints).1) Z (by have := nextB_lt by_ hM.1;have := hM.2.1;omega) (q := oE + (nextB by_ M.ints).1 * 1) Z) Z<|.yv (.loadM Z Fx.agg9 mE (k := 0) Z Z) Z<|.fn (tl := [_]) Z<|.a Z Z<|.nt<|.rt<|?_
 exact Sx.ret1 (.inl rfl) rfl (.tmp rfl) fun W t => ⟨(z9,H3),⟨u3,hz9⟩,rfl,(t.pickT (hd := [_]) (tl := bs) (hd' := [_]) [0] rfl rfl)⟩
def NumOf (rec : Bs → Ex × Bs) (M : Mk) (d : Nat) : Prop := ∀ (H : Hp) (w0 W : World) (bs : List Res) (b : Nat) (arV bv : Value) (left : Int) (by_ : Bs),Rep H (.seq 1 ((by_).map dU8)) [bv] → St H w0 (.box b (mkC M arV bv left) 126 :: bs) W →
 Calls Tryz.prog 135 #[.pointer (some ⟨b,0,none⟩),.int .i64 (d : Nat)] W fun e W' => ∃ z : List Value × Value × Hp,(HUp w0 H z.2.2 ∧ Rep z.2.2 (dEx .i64 (rec by_).1) z.1 ∧ Rep z.2.2 (.seq 1 (((rec by_).2).map dU8)) [z.2.1]) ∧ e = .returned (.agg z.1.toArray) ∧ St z.2.2 w0 (.box b (mkC M arV z.2.1 left) 126 :: bs) W'
theorem rep_num {H : Hp} {n : Nat} (h : n < 9) : Rep H (dEx .i64 (.mk 1 [] (Int64.ofNat n) [])) [.int .i64 1,strV [],.int .i64 (n : Nat),.slice none 0 0] := by
 have e : (Int64.ofNat n).toInt = (n : Int) := by
  have key : ∀ i ∈ List.range 9,(Int64.ofNat i).toInt = (i : Int) := by decide
  exact key n (List.mem_range.2 h)
 have := ex_shut (H := H) (k := .i64) (op := 1) (nm := []) (n := Int64.ofNat n) (args := []) (s := .slice none 0 0) (by decide) (Rep.empty (by decide))
 rw [e] at this
 exact this
theorem ops_at {k : Nat} (h : k < 6) : [Value.int .i64 14,.int .i64 15,.int .i64 11,.int .i64 12,.int .i64 13,.int .i64 14][k]? = some (.int .i64 (([14,15,11,12,13,14] : List UInt8).getD k 14).toNat) := by
 match k,h with
 | 0,_ => rfl
 | 1,_ => rfl
 | 2,_ => rfl
 | 3,_ => rfl
 | 4,_ => rfl
 | 5,_ => rfl
set_option maxRecDepth 100000 in
theorem number_step (M : Mk) (hM : okM M) (d : Nat) (hd : d ≤ 3) (rec : Bs → Ex × Bs) (hrec : d ≤ 2 → NumOf rec M (d + 1)) : NumOf (numS M d rec) M d := by
 intro H w0 W bs b arV bv left by_ hb s
 unfold numS
 refine Sx.enterS Tryz.func135 rfl Tryz.ntmps135 rfl s ?_
 refine .sr<|.al Fx.zero51 Z fun b4 => .ns<|.m Z Z<|.cs (X := Value) Fx.call112 Z (fun W s => next_st 12 (by decide) hb  (s.pickT (hd := [_,_]) (tl := bs) (hd' := [_,_]) [1,0] Z Z)) Z fun z9 hz9 => ?_
 have hk12 := nextB_lt by_ (n := 12) (by decide)
 generalize (nextB by_ 12).1 = k at hk12 ⊢
 generalize (nextB by_ 12).2 = b1 at hz9 ⊢
 refine .a Z Z<|.nt<|.cu (X := Unit) [(0,_),(1,_),(4,_)] ⟨rfl,rfl,rfl,trivial⟩ (fun z => []) (fun z => H) (fun z => (.box b (mkC M arV z9 left) 126 :: .box b4 [.int .i64 0,.string ⟨#[]⟩,.int .i64 0,.slice none 0 0] 51 :: bs)) (fun z => ¬ (k < 2 ∨ (2 < d ∧ 5 < k)) ∧ ¬ (k < 4 ∨ (k = 4 ∧ M.params = 0)) ∧ ¬ k = 4 ∧ ¬ k = 5 ∧ ¬ (k = 6 ∧ 0 < M.tables) ∧ ¬ (k = 7 ∧ 0 < M.tables) ∧ ¬ k = 8) ?_ fun z hC => ?_
 ·
  refine .bk<|.cu (X := Bool) [(0,_),(1,_),(4,_),(5,_)] ⟨rfl,rfl,rfl,rfl,trivial⟩ (fun z => [(10,.bool z)]) (fun z => H) (fun z => (.box b (mkC M arV z9 left) 126 :: .box b4 [.int .i64 0,.string ⟨#[]⟩,.int .i64 0,.slice none 0 0] 51 :: bs)) (fun z => z = decide (k < 2 ∨ (2 < d ∧ 5 < k))) ?_ fun z hC => ?_
  ·
   refine .rg<|.m Z Z<|.yv (.lss Z Z) Z<|.m Z Z<|.b2 (fun h13 => ?_) (fun h13 => ?_)
   ·try simp only [dt] at h13
    exact .gF Z Z Z Z<|.gF Z Z Z Z<|.gF Z Z Z Z<|.gU Z Z Z<|.gU Z Z Z<|.gF Z Z Z Z<|.yv (.pickT Z Z) Z<|.a Z Z<|.nt<|.me _ ⟨rfl,trivial⟩ ⟨rfl,rfl,rfl,rfl,trivial⟩ (fun _ s => s) (by rw [Bool.eq_iff_iff,decide_eq_true_eq];first | (rw [decide_eq_true_eq];omega) | exact ⟨fun _ => by omega,fun _ => rfl⟩ | exact ⟨fun h => (by cases h),fun h => by omega⟩)
   try simp only [df] at h13
   refine .gd Z Z<|.yv (.move Z) Z<|.gd Z Z<|.yv (.gtr Z Z) Z<|.gd Z Z<|.yv (.move Z) Z<|.b2 (fun h16 => ?_) (fun h16 => ?_)
   ·try simp only [dt] at h16
    exact .gd Z Z<|.yv (.move Z) Z<|.gd Z Z<|.yv (.gtr Z Z) Z<|.gd Z Z<|.yv (.pickT Z Z) Z<|.yv (.pickF Z Z) Z<|.a Z Z<|.nt<|.me _ ⟨rfl,trivial⟩ ⟨rfl,rfl,rfl,rfl,trivial⟩ (fun _ s => s) (by rw [Bool.eq_iff_iff,decide_eq_true_eq];first | (rw [decide_eq_true_eq];omega) | exact ⟨fun _ => by omega,fun _ => rfl⟩ | exact ⟨fun h => (by cases h),fun h => by omega⟩)
   try simp only [df] at h16
   exact .gF Z Z Z Z<|.gF Z Z Z Z<|.gd Z Z<|.yv (.pickF Z Z) Z<|.yv (.pickF Z Z) Z<|.a Z Z<|.nt<|.me _ ⟨rfl,trivial⟩ ⟨rfl,rfl,rfl,rfl,trivial⟩ (fun _ s => s) (by rw [Bool.eq_iff_iff,decide_eq_true_eq];first | (rw [decide_eq_true_eq];omega) | exact ⟨fun _ => by omega,fun _ => rfl⟩ | exact ⟨fun h => (by cases h),fun h => by omega⟩)
  have e10 := hC
  refine .cd Z (fun h10 => ?_) (fun h10 => ?_)
  ·have q10 : k < 2 ∨ (2 < d ∧ 5 < k) := by rw [h10] at e10;exact of_decide_eq_true e10.symm
   refine .sr<|.m Z Z<|.cs (X := Value) Fx.call112 Z (fun W s => next_st 9 (by decide) hz9  (s.pickT (hd := [_,_]) (tl := bs) (hd' := [_,_]) [0,1] Z Z)) Z fun z22 hz22 => .yv (.build Z (Fx.bld51_0_2 _ _)) Z<|.sW (.tail<|.head) Z Z Fx.size51 (by simp [Value.oneCell',strV]) Z<|.nt<|.rt<|.bR<|.tR<|?_
   exact Sx.ret1 (.inl rfl) rfl (.cell rfl Fx.agg51 (.tail _<|.head _) rfl) fun W t => ⟨(_,_,H),by rw [show numT M d rec k b1 = _ from by rw [numT,if_pos (by omega)]];exact ⟨.refl,rep_num (nextB_lt _ (by decide)),hz22⟩,rfl,(t.pickT (hd := [_,_]) (tl := bs) (hd' := [_]) [0] rfl rfl)⟩
  have q10 : ¬ (k < 2 ∨ (2 < d ∧ 5 < k)) := by rw [h10] at e10;exact of_decide_eq_false e10.symm
  refine .cu (X := Bool) [(0,_),(1,_),(4,_),(5,_)] ⟨rfl,rfl,rfl,rfl,trivial⟩ (fun z => [(24,.bool z)]) (fun z => H) (fun z => (.box b (mkC M arV z9 left) 126 :: .box b4 [.int .i64 0,.string ⟨#[]⟩,.int .i64 0,.slice none 0 0] 51 :: bs)) (fun z => z = decide (k < 4 ∨ (k = 4 ∧ M.params = 0))) ?_ fun z hC => ?_
  ·
   refine .rg<|.m Z Z<|.yv (.lss Z Z) Z<|.m Z Z<|.b2 (fun h27 => ?_) (fun h27 => ?_)
   ·try simp only [dt] at h27
    exact .gF Z Z Z Z<|.gF Z Z Z Z<|.gF Z Z Z Z<|.gU Z Z Z<|.gU Z Z Z<|.gU Z Z Z<|.gU Z Z Z<|.gU Z Z Z<|.gF Z Z Z Z<|.yv (.pickT Z Z) Z<|.a Z Z<|.nt<|.me _ ⟨rfl,trivial⟩ ⟨rfl,rfl,rfl,rfl,trivial⟩ (fun _ s => s) (by rw [Bool.eq_iff_iff,decide_eq_true_eq];first | (rw [decide_eq_true_eq];omega) | exact ⟨fun _ => by omega,fun _ => rfl⟩ | exact ⟨fun h => (by cases h),fun h => by omega⟩)
   try simp only [df] at h27
   refine .gd Z Z<|.yv (.move Z) Z<|.gd Z Z<|.yv (.eql Z Z) Z<|.gd Z Z<|.yv (.move Z) Z<|.b2 (fun h30 => ?_) (fun h30 => ?_)
   ·try simp only [dt] at h30
    exact .gd Z Z<|.yv (.move Z) Z<|.gd Z Z<|.yv (.nilCheck Z) Z<|.gd Z Z<|.yv (.fieldAddr Z Fx.field126_5) Z<|.gd Z Z<|.yv (.load Z Fx.agg3 (.head _) Z) Z<|.gd Z Z<|.yv (.eql Z Z) Z<|.gd Z Z<|.yv (.pickT Z Z) Z<|.yv (.pickF Z Z) Z<|.a Z Z<|.nt<|.me _ ⟨rfl,trivial⟩ ⟨rfl,rfl,rfl,rfl,trivial⟩ (fun _ s => s) (by rw [Bool.eq_iff_iff,decide_eq_true_eq];first | (rw [decide_eq_true_eq];omega) | exact ⟨fun _ => by omega,fun _ => rfl⟩ | exact ⟨fun h => (by cases h),fun h => by omega⟩)
   try simp only [df] at h30
   exact .gF Z Z Z Z<|.gF Z Z Z Z<|.gF Z Z Z Z<|.gF Z Z Z Z<|.gF Z Z Z Z<|.gd Z Z<|.yv (.pickF Z Z) Z<|.yv (.pickF Z Z) Z<|.a Z Z<|.nt<|.me _ ⟨rfl,trivial⟩ ⟨rfl,rfl,rfl,rfl,trivial⟩ (fun _ s => s) (by rw [Bool.eq_iff_iff,decide_eq_true_eq];first | (rw [decide_eq_true_eq];omega) | exact ⟨fun _ => by omega,fun _ => rfl⟩ | exact ⟨fun h => (by cases h),fun h => by omega⟩)
  have e24 := hC
  refine .cd Z (fun h24 => ?_) (fun h24 => ?_)
  ·have q24 : k < 4 ∨ (k = 4 ∧ M.params = 0) := by rw [h24] at e24;exact of_decide_eq_true e24.symm
   refine .sr<|.m Z Z<|.cs (X := Value × Hp) Fx.call137 Z (fun W s => integer_st hM hz9  (s.pickT (hd := [_,_]) (tl := bs) (hd' := [_,_]) [0,1] Z Z)) Z fun z39 hz39 => .yv (.build Z (Fx.bld51_0_1 _ _)) Z<|.sW (.tail<|.head) Z Z Fx.size51 (by simp [Value.oneCell',strV]) Z<|.nt<|.rt<|.bR<|.tR<|?_
   exact Sx.ret1 (.inl rfl) rfl (.cell rfl Fx.agg51 (.tail _<|.head _) rfl) fun W t => ⟨(_,_,z39.2),by rw [show numT M d rec k b1 = _ from by rw [numT,if_neg (by omega),if_pos (by omega)]];exact ⟨hz39.1,ex_shut (args := []) (by simp [nmB]) (Rep.empty (by decide)),hz39.2⟩,rfl,(t.pickT (hd := [_,_]) (tl := bs) (hd' := [_]) [0] rfl rfl)⟩
  have q24 : ¬ (k < 4 ∨ (k = 4 ∧ M.params = 0)) := by rw [h24] at e24;exact of_decide_eq_false e24.symm
  refine .sr<|.m Z Z<|.yv (.eql Z Z) Z<|.a Z Z<|.nt<|.cd Z (fun h41 => ?_) (fun h41 => ?_)
  ·try simp only [dt] at h41
   refine .sq<|.fl (trip := [(_,_,_),(_,_,_),(_,_,_),(_,_,_),(_,_,_),(_,_,_),(_,_,_),(_,_,_),(_,_,_),(_,_,_)]) 10 [(1,0),(2,0),(3,0),(4,0),(5,0),(0,1),(6,2),(7,0),(8,0),(9,0)] (by kernel_rfl) (by kernel_rfl) Z<|.m Z Z<|.m Z Z<|.yv (.nilCheck Z) Z<|.yv (.fieldAddr Z Fx.field126_5) Z<|.yv (.load Z Fx.agg3 (.head _) Z) Z<|.ct (X := Value) Fx.call41 Z (fun W s => names_any H 112 2 (by omega) W s.agr) Z fun v44 H44 hn44 u44 => ?_
   obtain ⟨pn44,cn44,e44,_⟩ := hn44.sl
   simp only [List.cons.injEq,and_true,List.length_map,namesB_len] at e44
   subst e44
   obtain ⟨bE,oE,hpE,mE⟩ := name_at hn44 (k := (nextB b1 M.params).1) (by have := nextB_lt b1 (n := M.params) (by omega);have := hM.2.2.1;omega)
   subst hpE
   refine .cs (X := Value) Fx.call112 Z (fun W s => next_st M.params (by omega) (hz9.up u44.up)  (s.pickT (hd := [_,_]) (tl := bs) (hd' := [_,_]) [0,1] Z Z)) Z fun z50 hz50 => .yv (.indexSl Fx.sl66 Z Z (i := (nextB b1 M.params).1) Z (by have := nextB_lt b1 (n := M.params) (by omega);have := hM.2.2.1;omega) (q := oE + (nextB b1 M.params).1 * 1) Z) Z<|.yv (.loadM Z Fx.agg9 mE (k := 0) Z Z) Z<|.yv (.build Z (Fx.bld51_0_1 _ _)) Z<|.fn (tl := [_]) Z<|.sW (.tail<|.head) Z Z Fx.size51 (by simp [Value.oneCell',strV]) Z<|.nt<|.rt<|.bR<|.tR<|?_
   exact Sx.ret1 (.inl rfl) rfl (.cell rfl Fx.agg51 (.tail _<|.head _) rfl) fun W t => ⟨(_,_,H44),by rw [show numT M d rec k b1 = _ from by rw [numT,if_neg (by omega),if_neg (by omega),if_pos (by omega)]];exact ⟨u44,ex_shut (args := []) (by simp [nmB]) (Rep.empty (by decide)),hz50⟩,rfl,(t.pickT (hd := [_,_]) (tl := bs) (hd' := [_]) [0] rfl rfl)⟩
  try simp only [df] at h41
  refine .sr<|.m Z Z<|.yv (.eql Z Z) Z<|.a Z Z<|.nt<|.cd Z (fun h54 => ?_) (fun h54 => ?_)
  ·try simp only [dt] at h54
   refine .sr<|.yv (.build Z (Fx.bld51_0 _)) Z<|.sW (.tail<|.head) Z Z Fx.size51 (by simp [Value.oneCell',strV]) Z<|.nt<|.rt<|.bR<|.tR<|?_
   exact Sx.ret1 (.inl rfl) rfl (.cell rfl Fx.agg51 (.tail _<|.head _) rfl) fun W t => ⟨(_,_,H),by rw [show numT M d rec k b1 = _ from by rw [numT,if_neg (by omega),if_neg (by omega),if_neg (by omega),if_pos (by omega)]];exact ⟨.refl,ex_shut (args := []) (nm := []) (by decide) (Rep.empty (by decide)),hz9⟩,rfl,(t.pickT (hd := [_,_]) (tl := bs) (hd' := [_]) [0] rfl rfl)⟩
  try simp only [df] at h54
  refine .cu (X := Bool) [(0,_),(1,_),(4,_),(5,_)] ⟨rfl,rfl,rfl,rfl,trivial⟩ (fun z => [(58,.bool z)]) (fun z => H) (fun z => (.box b (mkC M arV z9 left) 126 :: .box b4 [.int .i64 0,.string ⟨#[]⟩,.int .i64 0,.slice none 0 0] 51 :: bs)) (fun z => z = decide (k = 6 ∧ 0 < M.tables)) ?_ fun z hC => ?_
  ·
   refine .rg<|.m Z Z<|.yv (.eql Z Z) Z<|.m Z Z<|.b2 (fun h61 => ?_) (fun h61 => ?_)
   ·try simp only [dt] at h61
    exact .gd Z Z<|.yv (.move Z) Z<|.gd Z Z<|.yv (.nilCheck Z) Z<|.gd Z Z<|.yv (.fieldAddr Z Fx.field126_1) Z<|.gd Z Z<|.yv (.load Z Fx.agg3 (.head _) Z) Z<|.gd Z Z<|.yv (.gtr Z Z) Z<|.yv (.pickT Z Z) Z<|.a Z Z<|.nt<|.me _ ⟨rfl,trivial⟩ ⟨rfl,rfl,rfl,rfl,trivial⟩ (fun _ s => s) (by rw [Bool.eq_iff_iff,decide_eq_true_eq];first | (rw [decide_eq_true_eq];omega) | exact ⟨fun _ => by omega,fun _ => rfl⟩ | exact ⟨fun h => (by cases h),fun h => by omega⟩)
   try simp only [df] at h61
   exact .gF Z Z Z Z<|.gF Z Z Z Z<|.gF Z Z Z Z<|.gF Z Z Z Z<|.gF Z Z Z Z<|.yv (.pickF Z Z) Z<|.a Z Z<|.nt<|.me _ ⟨rfl,trivial⟩ ⟨rfl,rfl,rfl,rfl,trivial⟩ (fun _ s => s) (by rw [Bool.eq_iff_iff,decide_eq_true_eq];first | (rw [decide_eq_true_eq];omega) | exact ⟨fun _ => by omega,fun _ => rfl⟩ | exact ⟨fun h => (by cases h),fun h => by omega⟩)
  have e58 := hC
  refine .cd Z (fun h58 => ?_) (fun h58 => ?_)
  ·have q58 : k = 6 ∧ 0 < M.tables := by rw [h58] at e58;exact of_decide_eq_true e58.symm
   refine .sr<|.m Z Z<|.m Z Z<|.yv (.add Z Z (c := ((d + 1 : Nat) : Int)) ((w6 (by omega)).trans (by omega))) Z<|.cs (X := List Value × Value × Hp) Fx.call135 Z (fun W s => hrec (by omega) H w0 W _ b arV _ left b1 hz9  (s.pickT (hd := [_,_]) (tl := bs) (hd' := [_,_]) [0,1] Z Z)) Z fun z71 hz71 => ?_
   obtain ⟨x71,v71,H71⟩ := z71
   obtain ⟨u71,r71,q71⟩ := hz71
   dsimp only at u71 r71 q71 ⊢
   generalize hE71 : (rec b1).1 = e71 at r71
   obtain ⟨op71,nm71,n71,a71⟩ := e71
   obtain ⟨p71,c71,rfl,hs71,hl71⟩ := ex_open r71
   refine .bl Z (Fx.bsl49_1 _ _ _ _) Z fun b72 => .yv (.build Z (Fx.bld51_0_1_3 _ _ _ _ _)) Z<|.sW (.tail<|.tail<|.head) Z Z Fx.size51 (by simp [Value.oneCell',strV]) Z<|.nt<|.rt<|.bR<|.tR<|?_
   refine At.pt (hd := [_,_,_]) (tl := bs) (hd' := [_,_,_]) [0,2,1] rfl rfl ?_
   refine Sx.freezeBox fun Hf uf mf => ?_
   exact Sx.ret1 (.inl rfl) rfl (.cell rfl Fx.agg51 (.head _) rfl) fun W t => ⟨(_,_,Hf),by rw [show numT M d rec k b1 = _ from by rw [numT,if_neg (by omega),if_neg (by omega),if_neg (by omega),if_neg (by omega),if_pos (by omega)],hE71];exact ⟨u71.trans uf,ex_shut (nm := [116,48]) (args := [.mk op71 nm71 n71 a71]) (by decide) (Rep.mk (n := 1) (c := 1) mf (.single (r71.up uf.up) rfl) rfl (Nat.le_refl _) (by decide)),q71.up uf.up⟩,rfl,t.drop⟩
  have q58 : ¬ (k = 6 ∧ 0 < M.tables) := by rw [h58] at e58;exact of_decide_eq_false e58.symm
  refine .cu (X := Bool) [(0,_),(1,_),(4,_),(5,_)] ⟨rfl,rfl,rfl,rfl,trivial⟩ (fun z => [(74,.bool z)]) (fun z => H) (fun z => (.box b (mkC M arV z9 left) 126 :: .box b4 [.int .i64 0,.string ⟨#[]⟩,.int .i64 0,.slice none 0 0] 51 :: bs)) (fun z => z = decide (k = 7 ∧ 0 < M.tables)) ?_ fun z hC => ?_
  ·
   refine .rg<|.m Z Z<|.yv (.eql Z Z) Z<|.m Z Z<|.b2 (fun h77 => ?_) (fun h77 => ?_)
   ·try simp only [dt] at h77
    exact .gd Z Z<|.yv (.move Z) Z<|.gd Z Z<|.yv (.nilCheck Z) Z<|.gd Z Z<|.yv (.fieldAddr Z Fx.field126_1) Z<|.gd Z Z<|.yv (.load Z Fx.agg3 (.head _) Z) Z<|.gd Z Z<|.yv (.gtr Z Z) Z<|.yv (.pickT Z Z) Z<|.a Z Z<|.nt<|.me _ ⟨rfl,trivial⟩ ⟨rfl,rfl,rfl,rfl,trivial⟩ (fun _ s => s) (by rw [Bool.eq_iff_iff,decide_eq_true_eq];first | (rw [decide_eq_true_eq];omega) | exact ⟨fun _ => by omega,fun _ => rfl⟩ | exact ⟨fun h => (by cases h),fun h => by omega⟩)
   try simp only [df] at h77
   exact .gF Z Z Z Z<|.gF Z Z Z Z<|.gF Z Z Z Z<|.gF Z Z Z Z<|.gF Z Z Z Z<|.yv (.pickF Z Z) Z<|.a Z Z<|.nt<|.me _ ⟨rfl,trivial⟩ ⟨rfl,rfl,rfl,rfl,trivial⟩ (fun _ s => s) (by rw [Bool.eq_iff_iff,decide_eq_true_eq];first | (rw [decide_eq_true_eq];omega) | exact ⟨fun _ => by omega,fun _ => rfl⟩ | exact ⟨fun h => (by cases h),fun h => by omega⟩)
  have e74 := hC
  refine .cd Z (fun h74 => ?_) (fun h74 => ?_)
  ·have q74 : k = 7 ∧ 0 < M.tables := by rw [h74] at e74;exact of_decide_eq_true e74.symm
   refine .sr<|.yv (.build Z (Fx.bld51_0_1 _ _)) Z<|.sW (.tail<|.head) Z Z Fx.size51 (by simp [Value.oneCell',strV]) Z<|.nt<|.rt<|.bR<|.tR<|?_
   exact Sx.ret1 (.inl rfl) rfl (.cell rfl Fx.agg51 (.tail _<|.head _) rfl) fun W t => ⟨(_,_,H),by rw [show numT M d rec k b1 = _ from by rw [numT,if_neg (by omega),if_neg (by omega),if_neg (by omega),if_neg (by omega),if_neg (by omega),if_pos (by omega)]];exact ⟨.refl,ex_shut (args := []) (nm := [116,48]) (by decide) (Rep.empty (by decide)),hz9⟩,rfl,(t.pickT (hd := [_,_]) (tl := bs) (hd' := [_]) [0] rfl rfl)⟩
  have q74 : ¬ (k = 7 ∧ 0 < M.tables) := by rw [h74] at e74;exact of_decide_eq_false e74.symm
  refine .sr<|.m Z Z<|.yv (.eql Z Z) Z<|.a Z Z<|.nt<|.cd Z (fun h85 => ?_) (fun h85 => ?_)
  ·try simp only [dt] at h85
   refine .sr<|.m Z Z<|.m Z Z<|.yv (.add Z Z (w6 (by omega))) Z<|.cs (X := List Value × Value × Hp) Fx.call135 Z (fun W s => hrec (by omega) H w0 W _ b arV _ left b1 hz9  (s.pickT (hd := [_,_]) (tl := bs) (hd' := [_,_]) [0,1] Z Z)) Z fun z91 hz91 => ?_
   obtain ⟨x91,v91,H91⟩ := z91
   obtain ⟨u91,r91,q91⟩ := hz91
   dsimp only at u91 r91 q91 ⊢
   generalize hE91 : (rec b1).1 = e91 at r91
   obtain ⟨op91,nm91,n91,a91⟩ := e91
   obtain ⟨p91,c91,rfl,hs91,hl91⟩ := ex_open r91
   refine .bl Z (Fx.bsl49_1 _ _ _ _) Z fun b92 => .yv (.build Z (Fx.bld51_0_3 _ _ _ _)) Z<|.sW (.tail<|.tail<|.head) Z Z Fx.size51 (by simp [Value.oneCell',strV]) Z<|.nt<|.rt<|.bR<|.tR<|?_
   refine At.pt (hd := [_,_,_]) (tl := bs) (hd' := [_,_,_]) [0,2,1] rfl rfl ?_
   refine Sx.freezeBox fun Hf uf mf => ?_
   exact Sx.ret1 (.inl rfl) rfl (.cell rfl Fx.agg51 (.head _) rfl) fun W t => ⟨(_,_,Hf),by rw [show numT M d rec k b1 = _ from by rw [numT,if_neg (by omega),if_neg (by omega),if_neg (by omega),if_neg (by omega),if_neg (by omega),if_neg (by omega),if_pos (by omega)],hE91];exact ⟨u91.trans uf,ex_shut (nm := []) (args := [.mk op91 nm91 n91 a91]) (by decide) (Rep.mk (n := 1) (c := 1) mf (.single (r91.up uf.up) rfl) rfl (Nat.le_refl _) (by decide)),q91.up uf.up⟩,rfl,t.drop⟩
  try simp only [df] at h85
  exact .sk<|.bN<|.tN<|.me () trivial ⟨rfl,rfl,rfl,trivial⟩ (fun _ s => s) (by omega)
 obtain ⟨hc1,hc2,hc3,hc4,hc5,hc6,hc7⟩ := hC
 refine .sr<|.bl Z (Fx.bsl123_6 _ _ _ _ _ _) Z fun b94 => .m Z Z<|.cs (X := Value) Fx.call112 Z (fun W s => next_st 6 (by decide) hz9  (s.pickT (hd := [_,_,_]) (tl := bs) (hd' := [_,_,_]) [1,0,2] Z Z)) Z fun z96 hz96 => .yv (.indexSl Fx.sl123 Z Z (i := (nextB b1 6).1) Z (by have := nextB_lt b1 (n := 6) (by decide);omega) (q := (nextB b1 6).1) (by omega)) Z<|.yv (.load (v := .int .i64 (([14,15,11,12,13,14] : List UInt8).getD (nextB b1 6).1 14).toNat) Z Fx.agg3 (.tail _<|.head _) (ops_at (nextB_lt b1 (n := 6) (by decide)))) Z<|.a Z Z<|.ns<|.m Z Z<|.m Z Z<|.yv (.add Z Z (w6 (by omega))) Z<|.cs (X := List Value × Value × Hp) Fx.call135 Z (fun W s => hrec (by omega) H w0 W _ b arV _ left (nextB b1 6).2 hz96  (s.pickT (hd := [_,_,_]) (tl := bs) (hd' := [_,_,_]) [0,1,2] Z Z)) Z fun z102 hz102 => ?_
 obtain ⟨x102,v102,H102⟩ := z102
 obtain ⟨u102,r102,q102⟩ := hz102
 dsimp only at u102 r102 q102 ⊢
 generalize hE102 : (rec (nextB b1 6).2).1 = e102 at r102
 obtain ⟨op102,nm102,n102,a102⟩ := e102
 obtain ⟨p102,c102,rfl,hs102,hl102⟩ := ex_open r102
 refine .al Fx.zero51 Z fun b7 => .sW .head Z Z Fx.size51 (by simp [Value.oneCell',strV]) Z<|.nt<|.sq<|.fl (trip := [(_,_,_),(_,_,_),(_,_,_),(_,_,_),(_,_,_),(_,_,_),(_,_,_),(_,_,_)]) 8 [(0,0),(1,0),(2,0),(3,0),(4,0),(5,3),(6,1),(7,0)] (by kernel_rfl) (by kernel_rfl) Z<|.m Z Z<|.yv (.loadW Z Fx.agg51 (.head _) Z) Z<|.m Z Z<|.m Z Z<|.yv (.add Z Z (w6 (by omega))) Z<|.c3 (X := List Value × Value × Hp) Fx.call135 Z (fun W s => hrec (by omega) H102 w0 W _ b arV _ left (rec (nextB b1 6).2).2 q102  (s.pickT (hd := [_,_,_,_]) (tl := bs) (hd' := [_,_,_,_]) [1,0,2,3] Z Z)) Z (fun z108 hz108 => (.done (by kernel_rfl)<|.done (by kernel_rfl)<|.done (by kernel_rfl)<|.yv (.loadW Z Fx.agg51 (.tail _<|.head _) Z)<|.yv (.move Z)<|.nl)) fun z108 hz108 => ?_
 obtain ⟨x108,v108,H108⟩ := z108
 obtain ⟨u108,r108,q108⟩ := hz108
 dsimp only at u108 r108 q108 ⊢
 generalize hE108 : (rec (rec (nextB b1 6).2).2).1 = e108 at r108
 obtain ⟨op108,nm108,n108,a108⟩ := e108
 obtain ⟨p108,c108,rfl,hs108,hl108⟩ := ex_open r108
 refine .bl Z (Fx.bsl49_2 _ _ _ _ _ _ _ _) Z fun b109 => .yv (.build Z (Fx.bld51_0_3 _ _ _ _)) Z<|.fn (tl := [_]) Z<|.sW (.tail<|.tail<|.tail<|.tail<|.head) Z Z Fx.size51 (by simp [Value.oneCell',strV]) Z<|.nt<|.rt<|?_
 refine At.pt (hd := [_,_,_,_,_]) (tl := bs) (hd' := [_,_,_]) [0,4,1] rfl rfl ?_
 refine Sx.freezeBox fun Hf uf mf => ?_
 exact Sx.ret1 (.inl rfl) rfl (.cell rfl Fx.agg51 (.head _) rfl) fun W t => ⟨(_,_,Hf),by rw [show numT M d rec k b1 = _ from by rw [numT,if_neg (by omega),if_neg (by omega),if_neg (by omega),if_neg (by omega),if_neg (by omega),if_neg (by omega),if_neg (by omega)],hE102,hE108];exact ⟨(u102.trans u108).trans uf,ex_shut (nm := []) (args := [.mk op102 nm102 n102 a102,.mk op108 nm108 n108 a108]) (by decide) (Rep.mk (n := 2) (c := 2) mf (RepZ.app (RepZ.single ((r102.up u108.up).up uf.up) rfl) (RepZ.single (r108.up uf.up) rfl)) rfl (Nat.le_refl _) (by decide)),q108.up uf.up⟩,rfl,t.drop⟩
theorem num_any (M : Mk) (hM : okM M) : ∀ f,f ≤ 3 → NumOf (numE M f) M (3 - f)
 | 0,_ => number_step M hM 3 (by omega) _ (fun h => by omega)
 | f + 1,hf => by
  have e : 3 - (f + 1) = 2 - f := by omega
  rw [e]
  refine number_step M hM (2 - f) (by omega) (numE M f) fun _ => ?_
  rw [show 2 - f + 1 = 3 - f by omega]
  exact num_any M hM f (by omega)
set_option maxRecDepth 100000 in
theorem numbers_st {H : Hp} {w0 W : World} {bs : List Res} {b : Nat} {M : Mk} {arV bv : Value} {left : Int} {by_ : Bs} (hM : okM M) (n : Nat) (hn : n ≤ 100) (hb : Rep H (.seq 1 ((by_).map dU8)) [bv]) (s : St H w0 (.box b (mkC M arV bv left) 126 :: bs) W) :
 Calls Tryz.prog 136 #[.pointer (some ⟨b,0,none⟩),.int .i64 (n : Nat)] W fun e W' => ∃ z : Value × Value × Hp,(HUp w0 H z.2.2 ∧ (∃ xs,RepZ z.2.2 4 ((numL M n by_).1.map (dEx .i64)) xs ∧ SliceAt z.2.2 z.1 n xs ∧ (numL M n by_).1.length = n) ∧ Rep z.2.2 (.seq 1 (((numL M n by_).2).map dU8)) [z.2.1]) ∧ e = .returned z.1 ∧ St z.2.2 w0 (.box b (mkC M arV z.2.1 left) 126 :: bs) W' := by
 refine Sx.enterS Tryz.func136 rfl Tryz.ntmps136 rfl s ?_
 refine .sr<|.a Z Z<|.ns<|.a Z Z<|?_
 refine Sx.row0 51 4 ?_
 refine .nt<|.sq<|.sr<|.a Z Z<|.nt<|.bk<|.lp (X := Nat × Hp × Value × List Value × Value) [(0,_),(1,_)] ⟨rfl,rfl,trivial⟩ (bs) (fun z => [(5,z.2.2.1),(6,.int .i64 (z.1 : Nat))]) (fun z => z.2.1) (fun z => [.row 51 4 z.2.2.1 z.1 z.2.2.2.1,.box b (mkC M arV z.2.2.2.2 left) 126]) (fun z => z.1 ≤ n ∧ HUp w0 H z.2.1 ∧ ∃ (es : List Ex) (b1 : Bs),es.length = z.1 ∧ RepZ z.2.1 4 (es.map (dEx .i64)) z.2.2.2.1 ∧ Rep z.2.1 (.seq 1 ((b1).map dU8)) [z.2.2.2.2] ∧ numL M n by_ = (es ++ (numL M (n - z.1) b1).1,(numL M (n - z.1) b1).2)) (fun z => n - z.1) (0,H,.slice none 0 0,[],bv) (fun _ s => s) ⟨rfl,rfl,trivial⟩ ⟨by dsimp only;omega,.refl,[],by_,rfl,RepZ.nil,hb,rfl⟩ fun z hC => ?_
 obtain ⟨k,H1,r,xs,bv⟩ := z
 dsimp only at hC ⊢
 obtain ⟨hk0,u1,es,b1,hlen,hz,hb1,heq⟩ := hC
 refine .sq<|.sr<|.m Z Z<|.m Z Z<|.yv (.lss Z Z) Z<|.nt<|.cd Z (fun h9 => ?_) (fun h9 => ?_)
 ·try simp only [dt] at h9
  have hk : k < n := by omega
  refine .sk<|.tN<|.sq<|.bk<|.rg<|.m Z Z<|.m Z Z<|.cs (X := List Value × Value × Hp) Fx.call135 Z (fun W s => num_any M hM 2 (by decide) H1 w0 W _ b arV _ left b1 hb1  (s.pickT (hd := [_,_]) (tl := bs) (hd' := [_,_]) [1,0] Z Z)) Z fun z14 hz14 => ?_
  obtain ⟨x14,v14,H14⟩ := z14
  obtain ⟨u14,r14,q14⟩ := hz14
  dsimp only at u14 r14 q14 ⊢
  generalize hE14 : (numE M 2 b1).1 = e14 at r14
  obtain ⟨op14,nm14,n14,a14⟩ := e14
  obtain ⟨p14,c14,rfl,hs14,hl14⟩ := ex_open r14
  exact .bl Z (Fx.bsl49_1 _ _ _ _) Z fun b15 => .ap (news := [.int .i64 op14.toNat,strV nm14,.int .i64 n14.toInt,.slice p14 a14.length c14]) Fx.row49 Z (fun _ => (.tail<|.tail<|.head)) Z (.box (.head _) z0) Z (by simp [Value.oneCell',strV]) (by simp [maxLen];omega) (by omega) Z fun r16 _ => .a Z Z<|.nl<|.bN<|.tN<|.rg<|.m Z Z<|.yv (.add Z Z (w6 (by omega))) Z<|.a Z Z<|.nt<|.ag (x := (k,H1,r,xs,bv)) (k + 1,H14,r16,xs ++ [.int .i64 op14.toNat,strV nm14,.int .i64 n14.toInt,.slice p14 a14.length c14],v14) ⟨rfl,rfl,trivial⟩ ⟨rfl,rfl,trivial⟩ (fun _ s => (s.pickT (hd := [_,_,_]) (tl := bs) (hd' := [_,_]) [2,1] Z Z)) ⟨by dsimp only;omega,u1.trans u14,es ++ [.mk op14 nm14 n14 a14],(numE M 2 b1).2,by simp;omega,by dsimp only;rw [List.map_append];exact (hz.up u14.up).snoc r14 Z,q14,by dsimp only;rw [heq,show n - k = (n - (k + 1)) + 1 by omega,numL,hE14,List.append_assoc];rfl⟩ (by dsimp only;omega)
 try simp only [df] at h9
 obtain rfl : k = n := by omega
 rw [Nat.sub_self,numL,List.append_nil] at heq
 refine .ex<|.tE<|.tE<|.bE<|.tN<|.sr<|.m Z Z<|.a Z Z<|.nt<|.rt<|?_
 refine At.pt (hd := [_,_]) (tl := bs) (hd' := [_,_]) [0,1] rfl rfl ?_
 refine Sx.freezeAt fun H3 u3 hs3 => ?_
 exact Sx.ret1 (.inl rfl) rfl (.tmp rfl) fun W t => ⟨(r,bv,H3),by rw [heq];exact ⟨u1.trans u3,⟨xs,hz.up u3.up,hs3,hlen⟩,hb1.up u3.up⟩,rfl,t⟩
def TruOf (rec : Bs → Ex × Bs) (M : Mk) (d : Nat) : Prop := ∀ (H : Hp) (w0 W : World) (bs : List Res) (b : Nat) (arV bv : Value) (left : Int) (by_ : Bs),Rep H (.seq 1 ((by_).map dU8)) [bv] → St H w0 (.box b (mkC M arV bv left) 126 :: bs) W →
 Calls Tryz.prog 134 #[.pointer (some ⟨b,0,none⟩),.int .i64 (d : Nat)] W fun e W' => ∃ z : List Value × Value × Hp,(HUp w0 H z.2.2 ∧ Rep z.2.2 (dEx .i64 (rec by_).1) z.1 ∧ Rep z.2.2 (.seq 1 (((rec by_).2).map dU8)) [z.2.1]) ∧ e = .returned (.agg z.1.toArray) ∧ St z.2.2 w0 (.box b (mkC M arV z.2.1 left) 126 :: bs) W'
theorem op2 {n : Nat} (h : n < 2) : (((2 + UInt8.ofNat n).toNat : Nat) : Int) = 2 + (n : Int) := by
 have key : ∀ i ∈ List.range 2,(2 + UInt8.ofNat i).toNat = 2 + i := by decide
 have := key n (List.mem_range.2 h);omega
theorem op16 {n : Nat} (h : n < 10) : (((16 + UInt8.ofNat n).toNat : Nat) : Int) = 16 + (n : Int) := by
 have key : ∀ i ∈ List.range 10,(16 + UInt8.ofNat i).toNat = 16 + i := by decide
 have := key n (List.mem_range.2 h);omega
set_option maxRecDepth 100000 in
theorem truth_step (M : Mk) (hM : okM M) (d : Nat) (hd : d ≤ 2) (rec : Bs → Ex × Bs) (hrec : d ≤ 1 → TruOf rec M (d + 1)) : TruOf (truS M d rec) M d := by
 intro H w0 W bs b arV bv left by_ hb s
 unfold truS
 refine Sx.enterS Tryz.func134 rfl Tryz.ntmps134 rfl s ?_
 refine .sr<|.al Fx.zero51 Z fun b4 => .ns<|.m Z Z<|.cs (X := Value) Fx.call112 Z (fun W s => next_st 10 (by decide) hb  (s.pickT (hd := [_,_]) (tl := bs) (hd' := [_,_]) [1,0] Z Z)) Z fun z10 hz10 => ?_
 have hk12 := nextB_lt by_ (n := 10) (by decide)
 generalize (nextB by_ 10).1 = k at hk12 ⊢
 generalize (nextB by_ 10).2 = b1 at hz10 ⊢
 refine .a Z Z<|.nt<|.cu (X := Unit) [(0,_),(4,_)] ⟨rfl,rfl,trivial⟩ (fun z => []) (fun z => H) (fun z => (.box b (mkC M arV z10 left) 126 :: .box b4 [.int .i64 0,.string ⟨#[]⟩,.int .i64 0,.slice none 0 0] 51 :: bs)) (fun z => ¬ k = 0 ∧ ¬ (k = 1 ∨ (1 < d ∧ 4 < k)) ∧ ¬ (k = 2 ∧ 0 < M.flags) ∧ ¬ (k = 3 ∧ 0 < M.tables) ∧ ¬ k = 5 ∧ ¬ (k = 6 ∨ k = 7)) ?_ fun z hC => ?_
 ·
  refine .bk<|.sr<|.m Z Z<|.yv (.eql Z Z) Z<|.a Z Z<|.nt<|.cd Z (fun h11 => ?_) (fun h11 => ?_)
  ·try simp only [dt] at h11
   refine .sr<|.m Z Z<|.cs (X := Value) Fx.call112 Z (fun W s => next_st 2 (by decide) hz10  (s.pickT (hd := [_,_]) (tl := bs) (hd' := [_,_]) [0,1] Z Z)) Z fun z15 hz15 => .yv (.add Z Z (c := (((2 + UInt8.ofNat (nextB b1 2).1).toNat : Nat) : Int)) (by have := nextB_lt b1 (n := 2) (by decide);rw [op2 this];exact (w6 (by omega)).trans (by omega))) Z<|.yv (.build Z (Fx.bld51_0 _)) Z<|.sW (.tail<|.head) Z Z Fx.size51 (by simp [Value.oneCell',strV]) Z<|.nt<|.rt<|.bR<|.tR<|?_
   exact Sx.ret1 (.inl rfl) rfl (.cell rfl Fx.agg51 (.tail _<|.head _) rfl) fun W t => ⟨(_,_,H),by rw [show truT M d rec k b1 = _ from by rw [truT,if_pos (by omega)]];exact ⟨.refl,ex_shut (args := []) (nm := []) (by decide) (Rep.empty (by decide)),hz15⟩,rfl,(t.pickT (hd := [_,_]) (tl := bs) (hd' := [_]) [0] rfl rfl)⟩
  try simp only [df] at h11
  refine .cu (X := Bool) [(0,_),(1,_),(4,_),(5,_)] ⟨rfl,rfl,rfl,rfl,trivial⟩ (fun z => [(18,.bool z)]) (fun z => H) (fun z => (.box b (mkC M arV z10 left) 126 :: .box b4 [.int .i64 0,.string ⟨#[]⟩,.int .i64 0,.slice none 0 0] 51 :: bs)) (fun z => z = decide (k = 1 ∨ (1 < d ∧ 4 < k))) ?_ fun z hC => ?_
  ·
   refine .rg<|.m Z Z<|.yv (.eql Z Z) Z<|.m Z Z<|.b2 (fun h21 => ?_) (fun h21 => ?_)
   ·try simp only [dt] at h21
    exact .gF Z Z Z Z<|.gF Z Z Z Z<|.gF Z Z Z Z<|.gU Z Z Z<|.gU Z Z Z<|.gF Z Z Z Z<|.yv (.pickT Z Z) Z<|.a Z Z<|.nt<|.me _ ⟨rfl,trivial⟩ ⟨rfl,rfl,rfl,rfl,trivial⟩ (fun _ s => s) (by rw [Bool.eq_iff_iff,decide_eq_true_eq];first | (rw [decide_eq_true_eq];omega) | exact ⟨fun _ => by omega,fun _ => rfl⟩ | exact ⟨fun h => (by cases h),fun h => by omega⟩)
   try simp only [df] at h21
   refine .gd Z Z<|.yv (.move Z) Z<|.gd Z Z<|.yv (.gtr Z Z) Z<|.gd Z Z<|.yv (.move Z) Z<|.b2 (fun h24 => ?_) (fun h24 => ?_)
   ·try simp only [dt] at h24
    exact .gd Z Z<|.yv (.move Z) Z<|.gd Z Z<|.yv (.gtr Z Z) Z<|.gd Z Z<|.yv (.pickT Z Z) Z<|.yv (.pickF Z Z) Z<|.a Z Z<|.nt<|.me _ ⟨rfl,trivial⟩ ⟨rfl,rfl,rfl,rfl,trivial⟩ (fun _ s => s) (by rw [Bool.eq_iff_iff,decide_eq_true_eq];first | (rw [decide_eq_true_eq];omega) | exact ⟨fun _ => by omega,fun _ => rfl⟩ | exact ⟨fun h => (by cases h),fun h => by omega⟩)
   try simp only [df] at h24
   exact .gF Z Z Z Z<|.gF Z Z Z Z<|.gd Z Z<|.yv (.pickF Z Z) Z<|.yv (.pickF Z Z) Z<|.a Z Z<|.nt<|.me _ ⟨rfl,trivial⟩ ⟨rfl,rfl,rfl,rfl,trivial⟩ (fun _ s => s) (by rw [Bool.eq_iff_iff,decide_eq_true_eq];first | (rw [decide_eq_true_eq];omega) | exact ⟨fun _ => by omega,fun _ => rfl⟩ | exact ⟨fun h => (by cases h),fun h => by omega⟩)
  have e18 := hC
  refine .cd Z (fun h18 => ?_) (fun h18 => ?_)
  ·have q18 : k = 1 ∨ (1 < d ∧ 4 < k) := by rw [h18] at e18;exact of_decide_eq_true e18.symm
   refine .sr<|.yv (.build Z (Fx.bld51_0_1 _ _)) Z<|.sW (.tail<|.head) Z Z Fx.size51 (by simp [Value.oneCell',strV]) Z<|.nt<|.rt<|.bR<|.tR<|?_
   exact Sx.ret1 (.inl rfl) rfl (.cell rfl Fx.agg51 (.tail _<|.head _) rfl) fun W t => ⟨(_,_,H),by rw [show truT M d rec k b1 = _ from by rw [truT,if_neg (by omega),if_pos (by omega)]];exact ⟨.refl,ex_shut (args := []) (nm := [98,48]) (by decide) (Rep.empty (by decide)),hz10⟩,rfl,(t.pickT (hd := [_,_]) (tl := bs) (hd' := [_]) [0] rfl rfl)⟩
  have q18 : ¬ (k = 1 ∨ (1 < d ∧ 4 < k)) := by rw [h18] at e18;exact of_decide_eq_false e18.symm
  refine .cu (X := Bool) [(0,_),(1,_),(4,_),(5,_)] ⟨rfl,rfl,rfl,rfl,trivial⟩ (fun z => [(30,.bool z)]) (fun z => H) (fun z => (.box b (mkC M arV z10 left) 126 :: .box b4 [.int .i64 0,.string ⟨#[]⟩,.int .i64 0,.slice none 0 0] 51 :: bs)) (fun z => z = decide (k = 2 ∧ 0 < M.flags)) ?_ fun z hC => ?_
  ·
   refine .rg<|.m Z Z<|.yv (.eql Z Z) Z<|.m Z Z<|.b2 (fun h33 => ?_) (fun h33 => ?_)
   ·try simp only [dt] at h33
    exact .gd Z Z<|.yv (.move Z) Z<|.gd Z Z<|.yv (.nilCheck Z) Z<|.gd Z Z<|.yv (.fieldAddr Z Fx.field126_2) Z<|.gd Z Z<|.yv (.load Z Fx.agg3 (.head _) Z) Z<|.gd Z Z<|.yv (.gtr Z Z) Z<|.yv (.pickT Z Z) Z<|.a Z Z<|.nt<|.me _ ⟨rfl,trivial⟩ ⟨rfl,rfl,rfl,rfl,trivial⟩ (fun _ s => s) (by rw [Bool.eq_iff_iff,decide_eq_true_eq];first | (rw [decide_eq_true_eq];omega) | exact ⟨fun _ => by omega,fun _ => rfl⟩ | exact ⟨fun h => (by cases h),fun h => by omega⟩)
   try simp only [df] at h33
   exact .gF Z Z Z Z<|.gF Z Z Z Z<|.gF Z Z Z Z<|.gF Z Z Z Z<|.gF Z Z Z Z<|.yv (.pickF Z Z) Z<|.a Z Z<|.nt<|.me _ ⟨rfl,trivial⟩ ⟨rfl,rfl,rfl,rfl,trivial⟩ (fun _ s => s) (by rw [Bool.eq_iff_iff,decide_eq_true_eq];first | (rw [decide_eq_true_eq];omega) | exact ⟨fun _ => by omega,fun _ => rfl⟩ | exact ⟨fun h => (by cases h),fun h => by omega⟩)
  have e30 := hC
  refine .cd Z (fun h30 => ?_) (fun h30 => ?_)
  ·have q30 : k = 2 ∧ 0 < M.flags := by rw [h30] at e30;exact of_decide_eq_true e30.symm
   refine .sq<|.fl (trip := [(_,_,_),(_,_,_),(_,_,_),(_,_,_),(_,_,_),(_,_,_),(_,_,_),(_,_,_),(_,_,_),(_,_,_)]) 10 [(1,0),(2,0),(3,0),(4,0),(5,0),(0,1),(6,2),(7,0),(8,0),(9,0)] (by kernel_rfl) (by kernel_rfl) Z<|.m Z Z<|.m Z Z<|.yv (.nilCheck Z) Z<|.yv (.fieldAddr Z Fx.field126_2) Z<|.yv (.load Z Fx.agg3 (.head _) Z) Z<|.ct (X := Value) Fx.call41 Z (fun W s => names_any H 102 2 (by omega) W s.agr) Z fun v40 H40 hn40 u40 => ?_
   obtain ⟨pn40,cn40,e40,_⟩ := hn40.sl
   simp only [List.cons.injEq,and_true,List.length_map,namesB_len] at e40
   subst e40
   obtain ⟨bE,oE,hpE,mE⟩ := name_at hn40 (k := (nextB b1 M.flags).1) (by have := nextB_lt b1 (n := M.flags) (by omega);have := hM.2.2.2;omega)
   subst hpE
   refine .cs (X := Value) Fx.call112 Z (fun W s => next_st M.flags (by omega) (hz10.up u40.up)  (s.pickT (hd := [_,_]) (tl := bs) (hd' := [_,_]) [0,1] Z Z)) Z fun z46 hz46 => .yv (.indexSl Fx.sl66 Z Z (i := (nextB b1 M.flags).1) Z (by have := nextB_lt b1 (n := M.flags) (by omega);have := hM.2.2.2;omega) (q := oE + (nextB b1 M.flags).1 * 1) Z) Z<|.yv (.loadM Z Fx.agg9 mE (k := 0) Z Z) Z<|.yv (.build Z (Fx.bld51_0_1 _ _)) Z<|.fn (tl := [_]) Z<|.sW (.tail<|.head) Z Z Fx.size51 (by simp [Value.oneCell',strV]) Z<|.nt<|.rt<|.bR<|.tR<|?_
   exact Sx.ret1 (.inl rfl) rfl (.cell rfl Fx.agg51 (.tail _<|.head _) rfl) fun W t => ⟨(_,_,H40),by rw [show truT M d rec k b1 = _ from by rw [truT,if_neg (by omega),if_neg (by omega),if_pos (by omega)]];exact ⟨u40,ex_shut (args := []) (by simp [nmB]) (Rep.empty (by decide)),hz46⟩,rfl,(t.pickT (hd := [_,_]) (tl := bs) (hd' := [_]) [0] rfl rfl)⟩
  have q30 : ¬ (k = 2 ∧ 0 < M.flags) := by rw [h30] at e30;exact of_decide_eq_false e30.symm
  refine .cu (X := Bool) [(0,_),(1,_),(4,_),(5,_)] ⟨rfl,rfl,rfl,rfl,trivial⟩ (fun z => [(50,.bool z)]) (fun z => H) (fun z => (.box b (mkC M arV z10 left) 126 :: .box b4 [.int .i64 0,.string ⟨#[]⟩,.int .i64 0,.slice none 0 0] 51 :: bs)) (fun z => z = decide (k = 3 ∧ 0 < M.tables)) ?_ fun z hC => ?_
  ·
   refine .rg<|.m Z Z<|.yv (.eql Z Z) Z<|.m Z Z<|.b2 (fun h53 => ?_) (fun h53 => ?_)
   ·try simp only [dt] at h53
    exact .gd Z Z<|.yv (.move Z) Z<|.gd Z Z<|.yv (.nilCheck Z) Z<|.gd Z Z<|.yv (.fieldAddr Z Fx.field126_1) Z<|.gd Z Z<|.yv (.load Z Fx.agg3 (.head _) Z) Z<|.gd Z Z<|.yv (.gtr Z Z) Z<|.yv (.pickT Z Z) Z<|.a Z Z<|.nt<|.me _ ⟨rfl,trivial⟩ ⟨rfl,rfl,rfl,rfl,trivial⟩ (fun _ s => s) (by rw [Bool.eq_iff_iff,decide_eq_true_eq];first | (rw [decide_eq_true_eq];omega) | exact ⟨fun _ => by omega,fun _ => rfl⟩ | exact ⟨fun h => (by cases h),fun h => by omega⟩)
   try simp only [df] at h53
   exact .gF Z Z Z Z<|.gF Z Z Z Z<|.gF Z Z Z Z<|.gF Z Z Z Z<|.gF Z Z Z Z<|.yv (.pickF Z Z) Z<|.a Z Z<|.nt<|.me _ ⟨rfl,trivial⟩ ⟨rfl,rfl,rfl,rfl,trivial⟩ (fun _ s => s) (by rw [Bool.eq_iff_iff,decide_eq_true_eq];first | (rw [decide_eq_true_eq];omega) | exact ⟨fun _ => by omega,fun _ => rfl⟩ | exact ⟨fun h => (by cases h),fun h => by omega⟩)
  have e50 := hC
  refine .cd Z (fun h50 => ?_) (fun h50 => ?_)
  ·have q50 : k = 3 ∧ 0 < M.tables := by rw [h50] at e50;exact of_decide_eq_true e50.symm
   refine .sr<|.m Z Z<|.cs (X := List Value × Value × Hp) Fx.call135 Z (fun W s => num_any M hM 2 (by decide) H w0 W _ b arV _ left b1 hz10  (s.pickT (hd := [_,_]) (tl := bs) (hd' := [_,_]) [0,1] Z Z)) Z fun z61 hz61 => ?_
   obtain ⟨x61,v61,H61⟩ := z61
   obtain ⟨u61,r61,q61⟩ := hz61
   dsimp only at u61 r61 q61 ⊢
   generalize hE61 : (numE M 2 b1).1 = e61 at r61
   obtain ⟨op61,nm61,n61,a61⟩ := e61
   obtain ⟨p61,c61,rfl,hs61,hl61⟩ := ex_open r61
   refine .bl Z (Fx.bsl49_1 _ _ _ _) Z fun b62 => .yv (.build Z (Fx.bld51_0_1_3 _ _ _ _ _)) Z<|.sW (.tail<|.tail<|.head) Z Z Fx.size51 (by simp [Value.oneCell',strV]) Z<|.nt<|.rt<|.bR<|.tR<|?_
   refine At.pt (hd := [_,_,_]) (tl := bs) (hd' := [_,_,_]) [0,2,1] rfl rfl ?_
   refine Sx.freezeBox fun Hf uf mf => ?_
   exact Sx.ret1 (.inl rfl) rfl (.cell rfl Fx.agg51 (.head _) rfl) fun W t => ⟨(_,_,Hf),by rw [show truT M d rec k b1 = _ from by rw [truT,if_neg (by omega),if_neg (by omega),if_neg (by omega),if_pos (by omega)],hE61];exact ⟨u61.trans uf,ex_shut (nm := [116,48]) (args := [.mk op61 nm61 n61 a61]) (by decide) (Rep.mk (n := 1) (c := 1) mf (.single (r61.up uf.up) rfl) rfl (Nat.le_refl _) (by decide)),q61.up uf.up⟩,rfl,t.drop⟩
  have q50 : ¬ (k = 3 ∧ 0 < M.tables) := by rw [h50] at e50;exact of_decide_eq_false e50.symm
  refine .sr<|.m Z Z<|.yv (.eql Z Z) Z<|.a Z Z<|.nt<|.cd Z (fun h64 => ?_) (fun h64 => ?_)
  ·try simp only [dt] at h64
   refine .sr<|.m Z Z<|.m Z Z<|.yv (.add Z Z (c := ((d + 1 : Nat) : Int)) ((w6 (by omega)).trans (by omega))) Z<|.cs (X := List Value × Value × Hp) Fx.call134 Z (fun W s => hrec (by omega) H w0 W _ b arV _ left b1 hz10  (s.pickT (hd := [_,_]) (tl := bs) (hd' := [_,_]) [0,1] Z Z)) Z fun z70 hz70 => ?_
   obtain ⟨x70,v70,H70⟩ := z70
   obtain ⟨u70,r70,q70⟩ := hz70
   dsimp only at u70 r70 q70 ⊢
   generalize hE70 : (rec b1).1 = e70 at r70
   obtain ⟨op70,nm70,n70,a70⟩ := e70
   obtain ⟨p70,c70,rfl,hs70,hl70⟩ := ex_open r70
   refine .bl Z (Fx.bsl49_1 _ _ _ _) Z fun b71 => .yv (.build Z (Fx.bld51_0_3 _ _ _ _)) Z<|.sW (.tail<|.tail<|.head) Z Z Fx.size51 (by simp [Value.oneCell',strV]) Z<|.nt<|.rt<|.bR<|.tR<|?_
   refine At.pt (hd := [_,_,_]) (tl := bs) (hd' := [_,_,_]) [0,2,1] rfl rfl ?_
   refine Sx.freezeBox fun Hf uf mf => ?_
   exact Sx.ret1 (.inl rfl) rfl (.cell rfl Fx.agg51 (.head _) rfl) fun W t => ⟨(_,_,Hf),by rw [show truT M d rec k b1 = _ from by rw [truT,if_neg (by omega),if_neg (by omega),if_neg (by omega),if_neg (by omega),if_pos (by omega)],hE70];exact ⟨u70.trans uf,ex_shut (nm := []) (args := [.mk op70 nm70 n70 a70]) (by decide) (Rep.mk (n := 1) (c := 1) mf (.single (r70.up uf.up) rfl) rfl (Nat.le_refl _) (by decide)),q70.up uf.up⟩,rfl,t.drop⟩
  try simp only [df] at h64
  refine .cu (X := Bool) [(0,_),(1,_),(4,_),(5,_)] ⟨rfl,rfl,rfl,rfl,trivial⟩ (fun z => [(73,.bool z)]) (fun z => H) (fun z => (.box b (mkC M arV z10 left) 126 :: .box b4 [.int .i64 0,.string ⟨#[]⟩,.int .i64 0,.slice none 0 0] 51 :: bs)) (fun z => z = decide (k = 6 ∨ k = 7)) ?_ fun z hC => ?_
  ·
   refine .rg<|.m Z Z<|.yv (.eql Z Z) Z<|.m Z Z<|.b2 (fun h76 => ?_) (fun h76 => ?_)
   ·try simp only [dt] at h76
    exact .gF Z Z Z Z<|.gF Z Z Z Z<|.yv (.pickT Z Z) Z<|.a Z Z<|.nt<|.me _ ⟨rfl,trivial⟩ ⟨rfl,rfl,rfl,rfl,trivial⟩ (fun _ s => s) (by rw [Bool.eq_iff_iff,decide_eq_true_eq];first | (rw [decide_eq_true_eq];omega) | exact ⟨fun _ => by omega,fun _ => rfl⟩ | exact ⟨fun h => (by cases h),fun h => by omega⟩)
   try simp only [df] at h76
   exact .gd Z Z<|.yv (.move Z) Z<|.gd Z Z<|.yv (.eql Z Z) Z<|.yv (.pickF Z Z) Z<|.a Z Z<|.nt<|.me _ ⟨rfl,trivial⟩ ⟨rfl,rfl,rfl,rfl,trivial⟩ (fun _ s => s) (by rw [Bool.eq_iff_iff,decide_eq_true_eq];first | (rw [decide_eq_true_eq];omega) | exact ⟨fun _ => by omega,fun _ => rfl⟩ | exact ⟨fun h => (by cases h),fun h => by omega⟩)
  have e73 := hC
  refine .cd Z (fun h73 => ?_) (fun h73 => ?_)
  ·have q73 : k = 6 ∨ k = 7 := by rw [h73] at e73;exact of_decide_eq_true e73.symm
   refine .sr<|.m Z Z<|.m Z Z<|.yv (.add Z Z (c := ((d + 1 : Nat) : Int)) ((w6 (by omega)).trans (by omega))) Z<|.cs (X := List Value × Value × Hp) Fx.call134 Z (fun W s => hrec (by omega) H w0 W _ b arV _ left b1 hz10  (s.pickT (hd := [_,_]) (tl := bs) (hd' := [_,_]) [0,1] Z Z)) Z fun z83 hz83 => ?_
   obtain ⟨x83,v83,H83⟩ := z83
   obtain ⟨u83,r83,q83⟩ := hz83
   dsimp only at u83 r83 q83 ⊢
   generalize hE83 : (rec b1).1 = e83 at r83
   obtain ⟨op83,nm83,n83,a83⟩ := e83
   obtain ⟨p83,c83,rfl,hs83,hl83⟩ := ex_open r83
   refine .al Fx.zero51 Z fun b6 => .sW .head Z Z Fx.size51 (by simp [Value.oneCell',strV]) Z<|.nt<|.sq<|.fl (trip := [(_,_,_),(_,_,_),(_,_,_),(_,_,_),(_,_,_),(_,_,_),(_,_,_),(_,_,_),(_,_,_)]) 9 [(0,0),(1,0),(2,0),(3,0),(4,0),(5,0),(6,3),(7,1),(8,0)] (by kernel_rfl) (by kernel_rfl) Z<|.m Z Z<|.yv (.add Z Z (c := (((16 + UInt8.ofNat k).toNat : Nat) : Int)) (by rw [op16 hk12];exact (w6 (by omega)).trans (by omega))) Z<|.yv (.loadW Z Fx.agg51 (.head _) Z) Z<|.m Z Z<|.m Z Z<|.yv (.add Z Z (c := ((d + 1 : Nat) : Int)) ((w6 (by omega)).trans (by omega))) Z<|.c3 (X := List Value × Value × Hp) Fx.call134 Z (fun W s => hrec (by omega) H83 w0 W _ b arV _ left (rec b1).2 q83  (s.pickT (hd := [_,_,_]) (tl := bs) (hd' := [_,_,_]) [1,0,2] Z Z)) Z (fun z90 hz90 => (.done (by kernel_rfl)<|.done (by kernel_rfl)<|.done (by kernel_rfl)<|.yv (.loadW Z Fx.agg51 (.tail _<|.head _) Z)<|.yv (.add Z Z (c := (((16 + UInt8.ofNat k).toNat : Nat) : Int)) (by rw [op16 hk12];exact (w6 (by omega)).trans (by omega)))<|.yv (.move Z)<|.nl)) fun z90 hz90 => ?_
   obtain ⟨x90,v90,H90⟩ := z90
   obtain ⟨u90,r90,q90⟩ := hz90
   dsimp only at u90 r90 q90 ⊢
   generalize hE90 : (rec (rec b1).2).1 = e90 at r90
   obtain ⟨op90,nm90,n90,a90⟩ := e90
   obtain ⟨p90,c90,rfl,hs90,hl90⟩ := ex_open r90
   refine .bl Z (Fx.bsl49_2 _ _ _ _ _ _ _ _) Z fun b91 => .yv (.build Z (Fx.bld51_0_3 _ _ _ _)) Z<|.fn (tl := [_]) Z<|.sW (.tail<|.tail<|.tail<|.head) Z Z Fx.size51 (by simp [Value.oneCell',strV]) Z<|.nt<|.rt<|.bR<|.tR<|?_
   refine At.pt (hd := [_,_,_,_]) (tl := bs) (hd' := [_,_,_]) [0,3,1] rfl rfl ?_
   refine Sx.freezeBox fun Hf uf mf => ?_
   exact Sx.ret1 (.inl rfl) rfl (.cell rfl Fx.agg51 (.head _) rfl) fun W t => ⟨(_,_,Hf),by rw [show truT M d rec k b1 = _ from by rw [truT,if_neg (by omega),if_neg (by omega),if_neg (by omega),if_neg (by omega),if_neg (by omega),if_pos (by omega)],hE83,hE90];exact ⟨(u83.trans u90).trans uf,ex_shut (nm := []) (args := [.mk op83 nm83 n83 a83,.mk op90 nm90 n90 a90]) (by decide) (Rep.mk (n := 2) (c := 2) mf (RepZ.app (RepZ.single ((r83.up u90.up).up uf.up) rfl) (RepZ.single (r90.up uf.up) rfl)) rfl (Nat.le_refl _) (by decide)),q90.up uf.up⟩,rfl,t.drop⟩
  have q73 : ¬ (k = 6 ∨ k = 7) := by rw [h73] at e73;exact of_decide_eq_false e73.symm
  exact .sk<|.bN<|.tN<|.me () trivial ⟨rfl,rfl,trivial⟩ (fun _ s => s) (by omega)
 obtain ⟨hc1,hc2,hc3,hc4,hc5,hc6⟩ := hC
 refine .sr<|.m Z Z<|.cs (X := Value) Fx.call112 Z (fun W s => next_st 6 (by decide) hz10  (s.pickT (hd := [_,_]) (tl := bs) (hd' := [_,_]) [0,1] Z Z)) Z fun z94 hz94 => .yv (.add Z Z (c := (((16 + UInt8.ofNat (nextB b1 6).1).toNat : Nat) : Int)) (by have := nextB_lt b1 (n := 6) (by decide);rw [op16 (by omega)];exact (w6 (by omega)).trans (by omega))) Z<|.a Z Z<|.ns<|.m Z Z<|.cs (X := List Value × Value × Hp) Fx.call135 Z (fun W s => num_any M hM 2 (by decide) H w0 W _ b arV _ left (nextB b1 6).2 hz94  (s.pickT (hd := [_,_]) (tl := bs) (hd' := [_,_]) [0,1] Z Z)) Z fun z97 hz97 => ?_
 obtain ⟨x97,v97,H97⟩ := z97
 obtain ⟨u97,r97,q97⟩ := hz97
 dsimp only at u97 r97 q97 ⊢
 generalize hE97 : (numE M 2 (nextB b1 6).2).1 = e97 at r97
 obtain ⟨op97,nm97,n97,a97⟩ := e97
 obtain ⟨p97,c97,rfl,hs97,hl97⟩ := ex_open r97
 refine .al Fx.zero51 Z fun b8 => .sW .head Z Z Fx.size51 (by simp [Value.oneCell',strV]) Z<|.nt<|.sq<|.fl (trip := [(_,_,_),(_,_,_),(_,_,_),(_,_,_),(_,_,_),(_,_,_)]) 6 [(0,0),(1,0),(2,0),(3,3),(4,1),(5,0)] (by kernel_rfl) (by kernel_rfl) Z<|.m Z Z<|.yv (.loadW Z Fx.agg51 (.head _) Z) Z<|.m Z Z<|.c3 (X := List Value × Value × Hp) Fx.call135 Z (fun W s => num_any M hM 2 (by decide) H97 w0 W _ b arV _ left (numE M 2 (nextB b1 6).2).2 q97  (s.pickT (hd := [_,_,_]) (tl := bs) (hd' := [_,_,_]) [1,0,2] Z Z)) Z (fun z101 hz101 => (.done (by kernel_rfl)<|.yv (.loadW Z Fx.agg51 (.tail _<|.head _) Z)<|.yv (.move Z)<|.nl)) fun z101 hz101 => ?_
 obtain ⟨x101,v101,H101⟩ := z101
 obtain ⟨u101,r101,q101⟩ := hz101
 dsimp only at u101 r101 q101 ⊢
 generalize hE101 : (numE M 2 (numE M 2 (nextB b1 6).2).2).1 = e101 at r101
 obtain ⟨op101,nm101,n101,a101⟩ := e101
 obtain ⟨p101,c101,rfl,hs101,hl101⟩ := ex_open r101
 refine .bl Z (Fx.bsl49_2 _ _ _ _ _ _ _ _) Z fun b102 => .yv (.build Z (Fx.bld51_0_3 _ _ _ _)) Z<|.fn (tl := [_]) Z<|.sW (.tail<|.tail<|.tail<|.head) Z Z Fx.size51 (by simp [Value.oneCell',strV]) Z<|.nt<|.rt<|?_
 refine At.pt (hd := [_,_,_,_]) (tl := bs) (hd' := [_,_,_]) [0,3,1] rfl rfl ?_
 refine Sx.freezeBox fun Hf uf mf => ?_
 exact Sx.ret1 (.inl rfl) rfl (.cell rfl Fx.agg51 (.head _) rfl) fun W t => ⟨(_,_,Hf),by rw [show truT M d rec k b1 = _ from by rw [truT,if_neg (by omega),if_neg (by omega),if_neg (by omega),if_neg (by omega),if_neg (by omega),if_neg (by omega)],hE97,hE101];exact ⟨(u97.trans u101).trans uf,ex_shut (nm := []) (args := [.mk op97 nm97 n97 a97,.mk op101 nm101 n101 a101]) (by decide) (Rep.mk (n := 2) (c := 2) mf (RepZ.app (RepZ.single ((r97.up u101.up).up uf.up) rfl) (RepZ.single (r101.up uf.up) rfl)) rfl (Nat.le_refl _) (by decide)),q101.up uf.up⟩,rfl,t.drop⟩
theorem truth_any (M : Mk) (hM : okM M) : ∀ f,f ≤ 2 → TruOf (truE M f) M (2 - f)
 | 0,_ => truth_step M hM 2 (by omega) _ (fun h => by omega)
 | f + 1,hf => by
  have e : 2 - (f + 1) = 1 - f := by omega
  rw [e]
  refine truth_step M hM (1 - f) (by omega) (truE M f) fun _ => ?_
  rw [show 1 - f + 1 = 2 - f by omega]
  exact truth_any M hM f (by omega)
def BodOf (bd : Bs × Nat → List Sm × (Bs × Nat)) (M : Mk) (d : Nat) : Prop := ∀ (H : Hp) (w0 W : World) (bs : List Res) (b : Nat) (arV bv : Value) (lf : Nat) (by_ : Bs),lf ≤ 12 → Rep H (.seq 1 (M.ars.map dAr)) [arV] → Rep H (.seq 1 ((by_).map dU8)) [bv] → St H w0 (.box b (mkC M arV bv (lf : Nat)) 126 :: bs) W →
 Calls Tryz.prog 79 #[.pointer (some ⟨b,0,none⟩),.int .i64 (d : Nat)] W fun e W' => ∃ z : Value × Value × Hp,(HUp w0 H z.2.2 ∧ Rep z.2.2 (.seq 6 ((bd (by_,lf)).1.map (dSm .i64))) [z.1] ∧ Rep z.2.2 (.seq 1 (((bd (by_,lf)).2.1).map dU8)) [z.2.1] ∧ (bd (by_,lf)).2.2 ≤ 12) ∧ e = .returned z.1 ∧ St z.2.2 w0 (.box b (mkC M arV z.2.1 ((bd (by_,lf)).2.2 : Nat)) 126 :: bs) W'
def StOf (bd : Bs × Nat → List Sm × (Bs × Nat)) (M : Mk) (d : Nat) : Prop := ∀ (H : Hp) (w0 W : World) (bs : List Res) (b : Nat) (arV bv : Value) (lf : Nat) (by_ : Bs) (k : Nat),lf ≤ 12 → Rep H (.seq 1 (M.ars.map dAr)) [arV] → Rep H (.seq 1 ((by_).map dU8)) [bv] → St H w0 (.box b (mkC M arV bv (lf : Nat)) 126 :: bs) W →
 Calls Tryz.prog 113 #[.pointer (some ⟨b,0,none⟩),.int .i64 (k : Nat),.int .i64 (d : Nat)] W fun e W' => ∃ z : List Value × Value × Hp,(HUp w0 H z.2.2 ∧ Rep z.2.2 (dSm .i64 (stmT M k d bd by_ lf).1) z.1 ∧ Rep z.2.2 (.seq 1 (((stmT M k d bd by_ lf).2.1).map dU8)) [z.2.1] ∧ (stmT M k d bd by_ lf).2.2 ≤ 12) ∧ e = .returned (.agg z.1.toArray) ∧ St z.2.2 w0 (.box b (mkC M arV z.2.1 ((stmT M k d bd by_ lf).2.2 : Nat)) 126 :: bs) W'
def okA (M : Mk) : Prop := okM M ∧ 0 < M.ars.length ∧ M.ars.length ≤ 3 ∧ M.own < M.ars.length ∧ ∀ l ∈ M.ars,0 < l.length ∧ l.length ≤ 3 ∧ ∀ n ∈ l,n ≤ 2
theorem okA.len {M : Mk} (h : okA M) {c : Nat} (hc : c < M.ars.length) : 0 < arL M c ∧ arL M c ≤ 3 := by
 have := h.2.2.2.2 _ (List.getElem_mem hc)
 unfold arL;rw [getD_at hc];exact ⟨this.1,this.2.1⟩
theorem okA.num {M : Mk} (h : okA M) {c k : Nat} (hc : c < M.ars.length) (hk : k < arL M c) : arN M c k ≤ 2 := by
 have := h.2.2.2.2 _ (List.getElem_mem hc)
 unfold arL at hk
 unfold arN
 rw [getD_at hc] at hk ⊢
 rw [getD_at hk];exact this.2.2 _ (List.getElem_mem hk)
theorem ar_at {H : Hp} {M : Mk} {pA : Option Addr} {cA c : Nat} (h : Rep H (.seq 1 (M.ars.map dAr)) [.slice pA M.ars.length cA]) (hc : c < M.ars.length) : ∃ b o p k,pA = some ⟨b,o,none⟩ ∧ MemAt H b (o + c * 1) [.slice p (arL M c) k] ∧ Rep H (.seq 1 ((M.ars.getD c []).map dNat)) [.slice p (arL M c) k] := by
 obtain ⟨b,o,cs,e,r,l,m⟩ := h.elem (map_at (f := dAr) hc)
 unfold dAr at r
 obtain ⟨p,k,rfl,_⟩ := r.sl
 rw [List.length_map] at r m
 refine ⟨b,o,p,k,e,?_,?_⟩
 ·unfold arL;rw [getD_at hc];exact m
 ·unfold arL;rw [getD_at hc];exact r
theorem arn_at {H : Hp} {M : Mk} {p : Option Addr} {c k j : Nat} (h : Rep H (.seq 1 ((M.ars.getD c []).map dNat)) [.slice p (arL M c) k]) (hj : j < arL M c) : ∃ b o,p = some ⟨b,o,none⟩ ∧ MemAt H b (o + j * 1) [.int .i64 (arN M c j : Nat)] := by
 unfold arL at hj
 obtain ⟨b,o,cs,e,r,l,m⟩ := h.elem (map_at (f := dNat) hj)
 unfold dNat Rep at r
 obtain ⟨rfl,_⟩ := r
 refine ⟨b,o,e,?_⟩
 unfold arN;rw [getD_at hj];exact m
theorem abc_at {c : Nat} (h : c < 3) : [strV [97],strV [98],strV [99]][c]? = some (strV [UInt8.ofNat (97 + c)]) := by
 match c,h with
 | 0,_ => rfl
 | 1,_ => rfl
 | 2,_ => rfl
set_option maxHeartbeats 1000000 in
set_option maxRecDepth 100000 in
theorem stmt_step (M : Mk) (hM : okA M) (d : Nat) (hd : d ≤ 3) (bd : Bs × Nat → List Sm × (Bs × Nat)) (hbd : d < 3 → BodOf bd M (d + 1)) : StOf bd M d := by
 intro H w0 W bs b arV bv lf by_ k hlf hAr hb s
 obtain ⟨pA,cA,eA,_⟩ := hAr.sl
 simp only [List.cons.injEq,and_true,List.length_map] at eA
 subst eA
 rw [← List.length_map (f := dAr)] at hAr
 rw [List.length_map] at hAr
 have hcapA := hAr.cap
 refine Sx.enterS Tryz.func113 rfl Tryz.ntmps113 rfl s ?_
 refine .sr<|.al Fx.zero150 Z fun b6 => .nt<|.cu (X := Value) [(0,_),(6,_)] ⟨rfl,rfl,trivial⟩ (fun z => []) (fun z => H) (fun z => (.box b (mkC M (.slice pA M.ars.length cA) z (lf : Nat)) 126 :: .box b6 [.int .i64 0,.string ⟨#[]⟩,.string ⟨#[]⟩,.slice none 0 0,.slice none 0 0,.slice none 0 0] 150 :: bs)) (fun z => Rep H (.seq 1 ((if k = 12 then (nextB by_ 3).2 else by_).map dU8)) [z] ∧ ¬ k = 2 ∧ ¬ (k = 3 ∧ 0 < M.tables) ∧ ¬ (k = 4 ∧ 0 < M.tables) ∧ ¬ ((k = 5 ∨ k = 6) ∧ d < 3) ∧ ¬ (k = 7 ∧ d < 2) ∧ ¬ (k = 8 ∨ k = 9) ∧ ¬ k = 10 ∧ ¬ (k = 11 ∧ d < 3) ∧ ¬ (k = 12 ∧ (nextB by_ 3).1 = 0)) ?_ fun z hC => ?_
 ·
  refine .bk<|.sr<|.m Z Z<|.yv (.eql Z Z) Z<|.a Z Z<|.nt<|.cd Z (fun h18 => ?_) (fun h18 => ?_)
  ·try simp only [dt] at h18
   refine .sr<|.m Z Z<|.cs (X := List Value × Value × Hp) Fx.call134 Z (fun W s => truth_any M hM.1 2 (by decide) H w0 W _ b _ _ _ by_ hb  (s.pickT (hd := [_,_]) (tl := bs) (hd' := [_,_]) [1,0] Z Z)) Z fun z22 hz22 => ?_
   obtain ⟨x22,v22,H22⟩ := z22
   obtain ⟨u22,r22,q22⟩ := hz22
   dsimp only at u22 r22 q22 ⊢
   generalize hE22 : (truE M 2 by_).1 = e22 at r22
   obtain ⟨op22,nm22,n22,a22⟩ := e22
   obtain ⟨p22,c22,rfl,hs22,hl22⟩ := ex_open r22
   refine .bl Z (Fx.bsl49_1 _ _ _ _) Z fun b23 => .yv (.build Z (Fx.bld150_0_1_3 _ _ _ _ _)) Z<|.sW (.tail<|.tail<|.head) Z Z Fx.size150 (by simp [Value.oneCell',strV]) Z<|.nt<|.rt<|.bR<|.tR<|?_
   refine At.pt (hd := [_,_,_]) (tl := bs) (hd' := [_,_,_]) [0,2,1] rfl rfl ?_
   refine Sx.freezeBox fun Hf uf mf => ?_
   exact Sx.ret1 (.inl rfl) rfl (.cell rfl Fx.agg150 (.head _) rfl) fun W t => ⟨(_,_,Hf),by rw [show stmT M k d bd by_ lf = _ from by rw [stmT,if_pos (by omega)],hE22];exact ⟨u22.trans uf,sm_shut (kd := 1) (nm := [98,48]) (hd := []) (ex := [.mk op22 nm22 n22 a22]) (th := []) (el := []) (by first | decide | simp [nmB]) (by first | decide | simp [nmB]) (Rep.mk (n := 1) (c := 1) mf (.single ((r22).up uf.up) rfl) rfl (Nat.le_refl _) (by decide)) (Rep.empty (by decide)) (Rep.empty (by decide)),q22.up uf.up,hlf⟩,rfl,by rw [show stmT M k d bd by_ lf = _ from by rw [stmT,if_pos (by omega)],hE22];exact t.drop⟩
  try simp only [df] at h18
  refine .cu (X := Bool) [(0,_),(1,_),(2,_),(6,_)] ⟨rfl,rfl,rfl,rfl,trivial⟩ (fun z => [(25,.bool z)]) (fun z => H) (fun z => (.box b (mkC M (.slice pA M.ars.length cA) bv (lf : Nat)) 126 :: .box b6 [.int .i64 0,.string ⟨#[]⟩,.string ⟨#[]⟩,.slice none 0 0,.slice none 0 0,.slice none 0 0] 150 :: bs)) (fun z => z = decide (k = 3 ∧ 0 < M.tables)) ?_ fun z hC => ?_
  ·
   refine .rg<|.m Z Z<|.yv (.eql Z Z) Z<|.m Z Z<|.b2 (fun h28 => ?_) (fun h28 => ?_)
   ·try simp only [dt] at h28
    exact .gd Z Z<|.yv (.move Z) Z<|.gd Z Z<|.yv (.nilCheck Z) Z<|.gd Z Z<|.yv (.fieldAddr Z Fx.field126_1) Z<|.gd Z Z<|.yv (.load Z Fx.agg3 (.tail _<|.head _) Z) Z<|.gd Z Z<|.yv (.gtr Z Z) Z<|.yv (.pickT Z Z) Z<|.a Z Z<|.nt<|.me _ ⟨rfl,trivial⟩ ⟨rfl,rfl,rfl,rfl,trivial⟩ (fun _ s => (s.pickT (hd := [_,_]) (tl := bs) (hd' := [_,_]) [1,0] Z Z)) (by rw [Bool.eq_iff_iff,decide_eq_true_eq];first | (rw [decide_eq_true_eq];omega) | exact ⟨fun _ => by omega,fun _ => rfl⟩ | exact ⟨fun h => (by cases h),fun h => by omega⟩)
   try simp only [df] at h28
   exact .gF Z Z Z Z<|.gF Z Z Z Z<|.gF Z Z Z Z<|.gF Z Z Z Z<|.gF Z Z Z Z<|.yv (.pickF Z Z) Z<|.a Z Z<|.nt<|.me _ ⟨rfl,trivial⟩ ⟨rfl,rfl,rfl,rfl,trivial⟩ (fun _ s => (s.pickT (hd := [_,_]) (tl := bs) (hd' := [_,_]) [1,0] Z Z)) (by rw [Bool.eq_iff_iff,decide_eq_true_eq];first | (rw [decide_eq_true_eq];omega) | exact ⟨fun _ => by omega,fun _ => rfl⟩ | exact ⟨fun h => (by cases h),fun h => by omega⟩)
  have e25 := hC
  refine .cd Z (fun h25 => ?_) (fun h25 => ?_)
  ·have q25 : k = 3 ∧ 0 < M.tables := by rw [h25] at e25;exact of_decide_eq_true e25.symm
   refine .sr<|.m Z Z<|.cs (X := List Value × Value × Hp) Fx.call135 Z (fun W s => num_any M hM.1 3 (by decide) H w0 W _ b _ _ _ by_ hb  (s.pickT (hd := [_,_]) (tl := bs) (hd' := [_,_]) [0,1] Z Z)) Z fun z36 hz36 => ?_
   obtain ⟨x36,v36,H36⟩ := z36
   obtain ⟨u36,r36,q36⟩ := hz36
   dsimp only at u36 r36 q36 ⊢
   generalize hE36 : (numE M 3 by_).1 = e36 at r36
   obtain ⟨op36,nm36,n36,a36⟩ := e36
   obtain ⟨p36,c36,rfl,hs36,hl36⟩ := ex_open r36
   refine .m Z Z<|.cs (X := List Value × Value × Hp) Fx.call135 Z (fun W s => num_any M hM.1 3 (by decide) H36 w0 W _ b _ _ _ _ q36  (s.pickT (hd := [_,_]) (tl := bs) (hd' := [_,_]) [0,1] Z Z)) Z fun z38 hz38 => ?_
   obtain ⟨x38,v38,H38⟩ := z38
   obtain ⟨u38,r38,q38⟩ := hz38
   dsimp only at u38 r38 q38 ⊢
   generalize hE38 : (numE M 3 (numE M 3 by_).2).1 = e38 at r38
   obtain ⟨op38,nm38,n38,a38⟩ := e38
   obtain ⟨p38,c38,rfl,hs38,hl38⟩ := ex_open r38
   refine .bl Z (Fx.bsl49_2 _ _ _ _ _ _ _ _) Z fun b39 => .yv (.build Z (Fx.bld150_0_1_3 _ _ _ _ _)) Z<|.sW (.tail<|.tail<|.head) Z Z Fx.size150 (by simp [Value.oneCell',strV]) Z<|.nt<|.rt<|.bR<|.tR<|?_
   refine At.pt (hd := [_,_,_]) (tl := bs) (hd' := [_,_,_]) [0,2,1] rfl rfl ?_
   refine Sx.freezeBox fun Hf uf mf => ?_
   exact Sx.ret1 (.inl rfl) rfl (.cell rfl Fx.agg150 (.head _) rfl) fun W t => ⟨(_,_,Hf),by rw [show stmT M k d bd by_ lf = _ from by rw [stmT,if_neg (by omega),if_pos (by omega)],hE36,hE38];exact ⟨(u36.trans u38).trans uf,sm_shut (kd := 2) (nm := [116,48]) (hd := []) (ex := [.mk op36 nm36 n36 a36,.mk op38 nm38 n38 a38]) (th := []) (el := []) (by first | decide | simp [nmB]) (by first | decide | simp [nmB]) (Rep.mk (n := 2) (c := 2) mf (RepZ.app (RepZ.single ((r36.up u38.up).up uf.up) rfl) (RepZ.single (r38.up uf.up) rfl)) rfl (Nat.le_refl _) (by decide)) (Rep.empty (by decide)) (Rep.empty (by decide)),q38.up uf.up,hlf⟩,rfl,by rw [show stmT M k d bd by_ lf = _ from by rw [stmT,if_neg (by omega),if_pos (by omega)],hE36,hE38];exact t.drop⟩
  have q25 : ¬ (k = 3 ∧ 0 < M.tables) := by rw [h25] at e25;exact of_decide_eq_false e25.symm
  refine .cu (X := Bool) [(0,_),(1,_),(2,_),(6,_)] ⟨rfl,rfl,rfl,rfl,trivial⟩ (fun z => [(41,.bool z)]) (fun z => H) (fun z => (.box b (mkC M (.slice pA M.ars.length cA) bv (lf : Nat)) 126 :: .box b6 [.int .i64 0,.string ⟨#[]⟩,.string ⟨#[]⟩,.slice none 0 0,.slice none 0 0,.slice none 0 0] 150 :: bs)) (fun z => z = decide (k = 4 ∧ 0 < M.tables)) ?_ fun z hC => ?_
  ·
   refine .rg<|.m Z Z<|.yv (.eql Z Z) Z<|.m Z Z<|.b2 (fun h44 => ?_) (fun h44 => ?_)
   ·try simp only [dt] at h44
    exact .gd Z Z<|.yv (.move Z) Z<|.gd Z Z<|.yv (.nilCheck Z) Z<|.gd Z Z<|.yv (.fieldAddr Z Fx.field126_1) Z<|.gd Z Z<|.yv (.load Z Fx.agg3 (.head _) Z) Z<|.gd Z Z<|.yv (.gtr Z Z) Z<|.yv (.pickT Z Z) Z<|.a Z Z<|.nt<|.me _ ⟨rfl,trivial⟩ ⟨rfl,rfl,rfl,rfl,trivial⟩ (fun _ s => s) (by rw [Bool.eq_iff_iff,decide_eq_true_eq];first | (rw [decide_eq_true_eq];omega) | exact ⟨fun _ => by omega,fun _ => rfl⟩ | exact ⟨fun h => (by cases h),fun h => by omega⟩)
   try simp only [df] at h44
   exact .gF Z Z Z Z<|.gF Z Z Z Z<|.gF Z Z Z Z<|.gF Z Z Z Z<|.gF Z Z Z Z<|.yv (.pickF Z Z) Z<|.a Z Z<|.nt<|.me _ ⟨rfl,trivial⟩ ⟨rfl,rfl,rfl,rfl,trivial⟩ (fun _ s => s) (by rw [Bool.eq_iff_iff,decide_eq_true_eq];first | (rw [decide_eq_true_eq];omega) | exact ⟨fun _ => by omega,fun _ => rfl⟩ | exact ⟨fun h => (by cases h),fun h => by omega⟩)
  have e41 := hC
  refine .cd Z (fun h41 => ?_) (fun h41 => ?_)
  ·have q41 : k = 4 ∧ 0 < M.tables := by rw [h41] at e41;exact of_decide_eq_true e41.symm
   refine .sr<|.m Z Z<|.cs (X := List Value × Value × Hp) Fx.call135 Z (fun W s => num_any M hM.1 3 (by decide) H w0 W _ b _ _ _ by_ hb  (s.pickT (hd := [_,_]) (tl := bs) (hd' := [_,_]) [0,1] Z Z)) Z fun z52 hz52 => ?_
   obtain ⟨x52,v52,H52⟩ := z52
   obtain ⟨u52,r52,q52⟩ := hz52
   dsimp only at u52 r52 q52 ⊢
   generalize hE52 : (numE M 3 by_).1 = e52 at r52
   obtain ⟨op52,nm52,n52,a52⟩ := e52
   obtain ⟨p52,c52,rfl,hs52,hl52⟩ := ex_open r52
   refine .bl Z (Fx.bsl49_1 _ _ _ _) Z fun b53 => .yv (.build Z (Fx.bld150_0_1_3 _ _ _ _ _)) Z<|.sW (.tail<|.tail<|.head) Z Z Fx.size150 (by simp [Value.oneCell',strV]) Z<|.nt<|.rt<|.bR<|.tR<|?_
   refine At.pt (hd := [_,_,_]) (tl := bs) (hd' := [_,_,_]) [0,2,1] rfl rfl ?_
   refine Sx.freezeBox fun Hf uf mf => ?_
   exact Sx.ret1 (.inl rfl) rfl (.cell rfl Fx.agg150 (.head _) rfl) fun W t => ⟨(_,_,Hf),by rw [show stmT M k d bd by_ lf = _ from by rw [stmT,if_neg (by omega),if_neg (by omega),if_pos (by omega)],hE52];exact ⟨u52.trans uf,sm_shut (kd := 3) (nm := [116,48]) (hd := []) (ex := [.mk op52 nm52 n52 a52]) (th := []) (el := []) (by first | decide | simp [nmB]) (by first | decide | simp [nmB]) (Rep.mk (n := 1) (c := 1) mf (.single ((r52).up uf.up) rfl) rfl (Nat.le_refl _) (by decide)) (Rep.empty (by decide)) (Rep.empty (by decide)),q52.up uf.up,hlf⟩,rfl,by rw [show stmT M k d bd by_ lf = _ from by rw [stmT,if_neg (by omega),if_neg (by omega),if_pos (by omega)],hE52];exact t.drop⟩
  have q41 : ¬ (k = 4 ∧ 0 < M.tables) := by rw [h41] at e41;exact of_decide_eq_false e41.symm
  refine .cu (X := Bool) [(0,_),(1,_),(2,_),(6,_)] ⟨rfl,rfl,rfl,rfl,trivial⟩ (fun z => [(55,.bool z)]) (fun z => H) (fun z => (.box b (mkC M (.slice pA M.ars.length cA) bv (lf : Nat)) 126 :: .box b6 [.int .i64 0,.string ⟨#[]⟩,.string ⟨#[]⟩,.slice none 0 0,.slice none 0 0,.slice none 0 0] 150 :: bs)) (fun z => z = decide ((k = 5 ∨ k = 6) ∧ d < 3)) ?_ fun z hC => ?_
  ·
   refine .rg<|.m Z Z<|.yv (.eql Z Z) Z<|.m Z Z<|.b2 (fun h58 => ?_) (fun h58 => ?_)
   ·try simp only [dt] at h58
    exact .gF Z Z Z Z<|.gF Z Z Z Z<|.yv (.pickT Z Z) Z<|.m Z Z<|.gd Z Z<|.yv (.move Z) Z<|.gd Z Z<|.yv (.lss Z Z) Z<|.yv (.pickT Z Z) Z<|.a Z Z<|.nt<|.me _ ⟨rfl,trivial⟩ ⟨rfl,rfl,rfl,rfl,trivial⟩ (fun _ s => s) (by rw [Bool.eq_iff_iff,decide_eq_true_eq];first | (rw [decide_eq_true_eq];omega) | exact ⟨fun _ => by omega,fun _ => rfl⟩ | exact ⟨fun h => (by cases h),fun h => by omega⟩)
   try simp only [df] at h58
   refine .gd Z Z<|.yv (.move Z) Z<|.gd Z Z<|.yv (.eql Z Z) Z<|.yv (.pickF Z Z) Z<|.m Z Z<|.b2 (fun h62 => ?_) (fun h62 => ?_)
   ·try simp only [dt] at h62
    exact .gd Z Z<|.yv (.move Z) Z<|.gd Z Z<|.yv (.lss Z Z) Z<|.yv (.pickT Z Z) Z<|.a Z Z<|.nt<|.me _ ⟨rfl,trivial⟩ ⟨rfl,rfl,rfl,rfl,trivial⟩ (fun _ s => s) (by rw [Bool.eq_iff_iff,decide_eq_true_eq];first | (rw [decide_eq_true_eq];omega) | exact ⟨fun _ => by omega,fun _ => rfl⟩ | exact ⟨fun h => (by cases h),fun h => by omega⟩)
   try simp only [df] at h62
   exact .gF Z Z Z Z<|.gF Z Z Z Z<|.yv (.pickF Z Z) Z<|.a Z Z<|.nt<|.me _ ⟨rfl,trivial⟩ ⟨rfl,rfl,rfl,rfl,trivial⟩ (fun _ s => s) (by rw [Bool.eq_iff_iff,decide_eq_true_eq];first | (rw [decide_eq_true_eq];omega) | exact ⟨fun _ => by omega,fun _ => rfl⟩ | exact ⟨fun h => (by cases h),fun h => by omega⟩)
  have e55 := hC
  refine .cd Z (fun h55 => ?_) (fun h55 => ?_)
  ·have q55 : (k = 5 ∨ k = 6) ∧ d < 3 := by rw [h55] at e55;exact of_decide_eq_true e55.symm
   refine .sr<|.m Z Z<|.cs (X := List Value × Value × Hp) Fx.call134 Z (fun W s => truth_any M hM.1 2 (by decide) H w0 W _ b _ _ _ by_ hb  (s.pickT (hd := [_,_]) (tl := bs) (hd' := [_,_]) [0,1] Z Z)) Z fun z67 hz67 => ?_
   obtain ⟨x67,v67,H67⟩ := z67
   obtain ⟨u67,r67,q67⟩ := hz67
   dsimp only at u67 r67 q67 ⊢
   generalize hE67 : (truE M 2 by_).1 = e67 at r67
   obtain ⟨op67,nm67,n67,a67⟩ := e67
   obtain ⟨p67,c67,rfl,hs67,hl67⟩ := ex_open r67
   refine .al Fx.zero51 Z fun b7 => .sW .head Z Z Fx.size51 (by simp [Value.oneCell',strV]) Z<|.ns<|.m Z Z<|.m Z Z<|.yv (.add Z Z (c := ((d + 1 : Nat) : Int)) ((w6 (by omega)).trans (by omega))) Z<|.cs (X := Value × Value × Hp) Fx.call79 Z (fun W s => hbd (by omega) H67 w0 W _ b _ _ lf _ hlf (hAr.up u67.up) q67  (s.pickT (hd := [_,_,_]) (tl := bs) (hd' := [_,_,_]) [1,0,2] Z Z)) Z fun z71 hz71 => ?_
   obtain ⟨x71,v71,H71⟩ := z71
   obtain ⟨u71,r71,q71,l71⟩ := hz71
   dsimp only at u71 r71 q71 ⊢
   obtain ⟨pb71,cb71,eb71,_⟩ := r71.sl
   simp only [List.cons.injEq,and_true,List.length_map] at eb71
   subst eb71
   refine .a Z Z<|.nt<|.sq<|.ft (p := .light _ _ (.light _ _ (.light _ _ (.light _ _ (.light _ _ (.alt _ _ _ (.alt _ _ _ (.light _ _ (.done)) (.no)) (.alt _ _ _ (.alt _ _ _ (.light _ _ (.done)) (.no)) (.no)))))))) 8 (.light 0 (.light 2 (.light 3 (.light 4 (.light 5 (.alt 1 0 (.alt 6 2 (.light 7 (.done)) (.no)) (.alt 6 2 (.alt 1 0 (.light 7 (.done)) (.no)) (.no)))))))) (by kernel_rfl) (by kernel_rfl) Z<|.yv (.loadW Z Fx.agg51 (.tail _<|.head _) Z) Z<|.m Z Z<|.m Z Z<|.m Z Z<|.yv (.add Z Z (c := ((d + 1 : Nat) : Int)) ((w6 (by omega)).trans (by omega))) Z<|.h ?_ (.h ?_ .nn)
   ·
    refine .bl Z (Fx.bsl49_1 _ _ _ _) Z fun b73 => .h1<|.c3 (X := Value × Value × Hp) Fx.call79 Z (fun W s => hbd (by omega) H71 w0 W _ b _ _ _ _ l71 (hAr.up (u67.trans u71).up) q71  (s.pickT (hd := [_,_,_,_]) (tl := bs) (hd' := [_,_,_,_]) [1,0,2,3] Z Z)) Z (fun z78 hz78 => (.done (by kernel_rfl)<|.done (by kernel_rfl)<|.done (by kernel_rfl)<|.yv (.move Z)<|.yv (.loadW Z Fx.agg51 (.tail _<|.tail _<|.head _) Z)<|.nl)) fun z78 hz78 => ?_
    obtain ⟨x78,v78,H78⟩ := z78
    obtain ⟨u78,r78,q78,l78⟩ := hz78
    dsimp only at u78 r78 q78 ⊢
    obtain ⟨pb78,cb78,eb78,_⟩ := r78.sl
    simp only [List.cons.injEq,and_true,List.length_map] at eb78
    subst eb78
    refine .yv (.build Z (Fx.bld150_0_3_4_5 _ _ _ _ _ _ _ _ _ _)) Z<|.fn (tl := [_]) Z<|.sW (.tail<|.tail<|.tail<|.head) Z Z Fx.size150 (by simp [Value.oneCell',strV]) Z<|.nt<|.rt<|.bR<|.tR<|?_
    refine At.pt (hd := [_,_,_,_]) (tl := bs) (hd' := [_,_,_]) [1,3,0] rfl rfl ?_
    refine Sx.freezeBox fun Hf uf mf => ?_
    exact Sx.ret1 (.inl rfl) rfl (.cell rfl Fx.agg150 (.head _) rfl) fun W t => ⟨(_,_,Hf),by rw [show stmT M k d bd by_ lf = _ from by rw [stmT,if_neg (by omega),if_neg (by omega),if_neg (by omega),if_pos (by omega)],hE67];exact ⟨(u67.trans (u71.trans u78)).trans uf,sm_shut (kd := 4) (nm := []) (hd := []) (ex := [.mk op67 nm67 n67 a67]) (th := _) (el := _) (by first | decide | simp [nmB]) (by first | decide | simp [nmB]) (Rep.mk (n := 1) (c := 1) mf (.single ((r67.up (u71.trans u78).up).up uf.up) rfl) rfl (Nat.le_refl _) (by decide)) ((r71.up u78.up).up uf.up) (r78.up uf.up),q78.up uf.up,l78⟩,rfl,by rw [show stmT M k d bd by_ lf = _ from by rw [stmT,if_neg (by omega),if_neg (by omega),if_neg (by omega),if_pos (by omega)],hE67];exact t.drop⟩
   refine .c3 (X := Value × Value × Hp) Fx.call79 Z (fun W s => hbd (by omega) H71 w0 W _ b _ _ _ _ l71 (hAr.up (u67.trans u71).up) q71  (s.pickT (hd := [_,_,_]) (tl := bs) (hd' := [_,_,_]) [0,1,2] Z Z)) Z (fun z78 hz78 => (.done (by kernel_rfl)<|.done (by kernel_rfl)<|.done (by kernel_rfl)<|.yv (.move Z)<|.yv (.loadW Z Fx.agg51 (.tail _<|.head _) Z)<|.nl)) fun z78 hz78 => ?_
   obtain ⟨x78,v78,H78⟩ := z78
   obtain ⟨u78,r78,q78,l78⟩ := hz78
   dsimp only at u78 r78 q78 ⊢
   obtain ⟨pb78,cb78,eb78,_⟩ := r78.sl
   simp only [List.cons.injEq,and_true,List.length_map] at eb78
   subst eb78
   refine .h1<|.bl Z (Fx.bsl49_1 _ _ _ _) Z fun b73 => .yv (.build Z (Fx.bld150_0_3_4_5 _ _ _ _ _ _ _ _ _ _)) Z<|.fn (tl := [_]) Z<|.sW (.tail<|.tail<|.tail<|.head) Z Z Fx.size150 (by simp [Value.oneCell',strV]) Z<|.nt<|.rt<|.bR<|.tR<|?_
   refine At.pt (hd := [_,_,_,_]) (tl := bs) (hd' := [_,_,_]) [0,3,1] rfl rfl ?_
   refine Sx.freezeBox fun Hf uf mf => ?_
   exact Sx.ret1 (.inl rfl) rfl (.cell rfl Fx.agg150 (.head _) rfl) fun W t => ⟨(_,_,Hf),by rw [show stmT M k d bd by_ lf = _ from by rw [stmT,if_neg (by omega),if_neg (by omega),if_neg (by omega),if_pos (by omega)],hE67];exact ⟨(u67.trans (u71.trans u78)).trans uf,sm_shut (kd := 4) (nm := []) (hd := []) (ex := [.mk op67 nm67 n67 a67]) (th := _) (el := _) (by first | decide | simp [nmB]) (by first | decide | simp [nmB]) (Rep.mk (n := 1) (c := 1) mf (.single ((r67.up (u71.trans u78).up).up uf.up) rfl) rfl (Nat.le_refl _) (by decide)) ((r71.up u78.up).up uf.up) (r78.up uf.up),q78.up uf.up,l78⟩,rfl,by rw [show stmT M k d bd by_ lf = _ from by rw [stmT,if_neg (by omega),if_neg (by omega),if_neg (by omega),if_pos (by omega)],hE67];exact t.drop⟩
  have q55 : ¬ ((k = 5 ∨ k = 6) ∧ d < 3) := by rw [h55] at e55;exact of_decide_eq_false e55.symm
  refine .cu (X := Bool) [(0,_),(1,_),(2,_),(6,_)] ⟨rfl,rfl,rfl,rfl,trivial⟩ (fun z => [(80,.bool z)]) (fun z => H) (fun z => (.box b (mkC M (.slice pA M.ars.length cA) bv (lf : Nat)) 126 :: .box b6 [.int .i64 0,.string ⟨#[]⟩,.string ⟨#[]⟩,.slice none 0 0,.slice none 0 0,.slice none 0 0] 150 :: bs)) (fun z => z = decide (k = 7 ∧ d < 2)) ?_ fun z hC => ?_
  ·
   refine .rg<|.m Z Z<|.yv (.eql Z Z) Z<|.m Z Z<|.b2 (fun h83 => ?_) (fun h83 => ?_)
   ·try simp only [dt] at h83
    exact .gd Z Z<|.yv (.move Z) Z<|.gd Z Z<|.yv (.lss Z Z) Z<|.yv (.pickT Z Z) Z<|.a Z Z<|.nt<|.me _ ⟨rfl,trivial⟩ ⟨rfl,rfl,rfl,rfl,trivial⟩ (fun _ s => s) (by rw [Bool.eq_iff_iff,decide_eq_true_eq];first | (rw [decide_eq_true_eq];omega) | exact ⟨fun _ => by omega,fun _ => rfl⟩ | exact ⟨fun h => (by cases h),fun h => by omega⟩)
   try simp only [df] at h83
   exact .gF Z Z Z Z<|.gF Z Z Z Z<|.yv (.pickF Z Z) Z<|.a Z Z<|.nt<|.me _ ⟨rfl,trivial⟩ ⟨rfl,rfl,rfl,rfl,trivial⟩ (fun _ s => s) (by rw [Bool.eq_iff_iff,decide_eq_true_eq];first | (rw [decide_eq_true_eq];omega) | exact ⟨fun _ => by omega,fun _ => rfl⟩ | exact ⟨fun h => (by cases h),fun h => by omega⟩)
  have e80 := hC
  refine .cd Z (fun h80 => ?_) (fun h80 => ?_)
  ·have q80 : k = 7 ∧ d < 2 := by rw [h80] at e80;exact of_decide_eq_true e80.symm
   refine .sr<|.m Z Z<|.cs (X := List Value × Value × Hp) Fx.call134 Z (fun W s => truth_any M hM.1 2 (by decide) H w0 W _ b _ _ _ by_ hb  (s.pickT (hd := [_,_]) (tl := bs) (hd' := [_,_]) [0,1] Z Z)) Z fun z88 hz88 => ?_
   obtain ⟨x88,v88,H88⟩ := z88
   obtain ⟨u88,r88,q88⟩ := hz88
   dsimp only at u88 r88 q88 ⊢
   generalize hE88 : (truE M 2 by_).1 = e88 at r88
   obtain ⟨op88,nm88,n88,a88⟩ := e88
   obtain ⟨p88,c88,rfl,hs88,hl88⟩ := ex_open r88
   refine .al Fx.zero51 Z fun b9 => .sW .head Z Z Fx.size51 (by simp [Value.oneCell',strV]) Z<|.nt<|.sq<|.ft (p := .light _ _ (.light _ _ (.light _ _ (.light _ _ (.alt _ _ _ (.alt _ _ _ (.light _ _ (.done)) (.no)) (.alt _ _ _ (.alt _ _ _ (.light _ _ (.done)) (.no)) (.no))))))) 7 (.light 0 (.light 2 (.light 3 (.light 4 (.alt 1 0 (.alt 5 2 (.light 6 (.done)) (.no)) (.alt 5 2 (.alt 1 0 (.light 6 (.done)) (.no)) (.no))))))) (by kernel_rfl) (by kernel_rfl) Z<|.yv (.loadW Z Fx.agg51 (.head _) Z) Z<|.m Z Z<|.m Z Z<|.yv (.add Z Z (c := ((d + 1 : Nat) : Int)) ((w6 (by omega)).trans (by omega))) Z<|.h ?_ (.h ?_ .nn)
   ·
    refine .bl Z (Fx.bsl49_1 _ _ _ _) Z fun b90 => .h1<|.c3 (X := Value × Value × Hp) Fx.call79 Z (fun W s => hbd (by omega) H88 w0 W _ b _ _ lf _ hlf (hAr.up u88.up) q88  (s.pickT (hd := [_,_,_,_]) (tl := bs) (hd' := [_,_,_,_]) [2,0,1,3] Z Z)) Z (fun z94 hz94 => (.done (by kernel_rfl)<|.done (by kernel_rfl)<|.done (by kernel_rfl)<|.yv (.loadW Z Fx.agg51 (.tail _<|.tail _<|.head _) Z)<|.nl)) fun z94 hz94 => ?_
    obtain ⟨x94,v94,H94⟩ := z94
    obtain ⟨u94,r94,q94,l94⟩ := hz94
    dsimp only at u94 r94 q94 ⊢
    obtain ⟨pb94,cb94,eb94,_⟩ := r94.sl
    simp only [List.cons.injEq,and_true,List.length_map] at eb94
    subst eb94
    refine .yv (.build Z (Fx.bld150_0_3_4 _ _ _ _ _ _ _)) Z<|.fn (tl := [_]) Z<|.sW (.tail<|.tail<|.tail<|.head) Z Z Fx.size150 (by simp [Value.oneCell',strV]) Z<|.nt<|.rt<|.bR<|.tR<|?_
    refine At.pt (hd := [_,_,_,_]) (tl := bs) (hd' := [_,_,_]) [1,3,0] rfl rfl ?_
    refine Sx.freezeBox fun Hf uf mf => ?_
    exact Sx.ret1 (.inl rfl) rfl (.cell rfl Fx.agg150 (.head _) rfl) fun W t => ⟨(_,_,Hf),by rw [show stmT M k d bd by_ lf = _ from by rw [stmT,if_neg (by omega),if_neg (by omega),if_neg (by omega),if_neg (by omega),if_pos (by omega)],hE88];exact ⟨(u88.trans u94).trans uf,sm_shut (kd := 5) (nm := []) (hd := []) (ex := [.mk op88 nm88 n88 a88]) (th := _) (el := []) (by first | decide | simp [nmB]) (by first | decide | simp [nmB]) (Rep.mk (n := 1) (c := 1) mf (.single ((r88.up (u94).up).up uf.up) rfl) rfl (Nat.le_refl _) (by decide)) (r94.up uf.up) (Rep.empty (by decide)),q94.up uf.up,l94⟩,rfl,by rw [show stmT M k d bd by_ lf = _ from by rw [stmT,if_neg (by omega),if_neg (by omega),if_neg (by omega),if_neg (by omega),if_pos (by omega)],hE88];exact t.drop⟩
   refine .c3 (X := Value × Value × Hp) Fx.call79 Z (fun W s => hbd (by omega) H88 w0 W _ b _ _ lf _ hlf (hAr.up u88.up) q88  (s.pickT (hd := [_,_,_]) (tl := bs) (hd' := [_,_,_]) [1,0,2] Z Z)) Z (fun z94 hz94 => (.done (by kernel_rfl)<|.done (by kernel_rfl)<|.done (by kernel_rfl)<|.yv (.loadW Z Fx.agg51 (.tail _<|.head _) Z)<|.nl)) fun z94 hz94 => ?_
   obtain ⟨x94,v94,H94⟩ := z94
   obtain ⟨u94,r94,q94,l94⟩ := hz94
   dsimp only at u94 r94 q94 ⊢
   obtain ⟨pb94,cb94,eb94,_⟩ := r94.sl
   simp only [List.cons.injEq,and_true,List.length_map] at eb94
   subst eb94
   refine .h1<|.bl Z (Fx.bsl49_1 _ _ _ _) Z fun b90 => .yv (.build Z (Fx.bld150_0_3_4 _ _ _ _ _ _ _)) Z<|.fn (tl := [_]) Z<|.sW (.tail<|.tail<|.tail<|.head) Z Z Fx.size150 (by simp [Value.oneCell',strV]) Z<|.nt<|.rt<|.bR<|.tR<|?_
   refine At.pt (hd := [_,_,_,_]) (tl := bs) (hd' := [_,_,_]) [0,3,1] rfl rfl ?_
   refine Sx.freezeBox fun Hf uf mf => ?_
   exact Sx.ret1 (.inl rfl) rfl (.cell rfl Fx.agg150 (.head _) rfl) fun W t => ⟨(_,_,Hf),by rw [show stmT M k d bd by_ lf = _ from by rw [stmT,if_neg (by omega),if_neg (by omega),if_neg (by omega),if_neg (by omega),if_pos (by omega)],hE88];exact ⟨(u88.trans u94).trans uf,sm_shut (kd := 5) (nm := []) (hd := []) (ex := [.mk op88 nm88 n88 a88]) (th := _) (el := []) (by first | decide | simp [nmB]) (by first | decide | simp [nmB]) (Rep.mk (n := 1) (c := 1) mf (.single ((r88.up (u94).up).up uf.up) rfl) rfl (Nat.le_refl _) (by decide)) (r94.up uf.up) (Rep.empty (by decide)),q94.up uf.up,l94⟩,rfl,by rw [show stmT M k d bd by_ lf = _ from by rw [stmT,if_neg (by omega),if_neg (by omega),if_neg (by omega),if_neg (by omega),if_pos (by omega)],hE88];exact t.drop⟩
  have q80 : ¬ (k = 7 ∧ d < 2) := by rw [h80] at e80;exact of_decide_eq_false e80.symm
  refine .cu (X := Bool) [(0,_),(1,_),(2,_),(6,_)] ⟨rfl,rfl,rfl,rfl,trivial⟩ (fun z => [(96,.bool z)]) (fun z => H) (fun z => (.box b (mkC M (.slice pA M.ars.length cA) bv (lf : Nat)) 126 :: .box b6 [.int .i64 0,.string ⟨#[]⟩,.string ⟨#[]⟩,.slice none 0 0,.slice none 0 0,.slice none 0 0] 150 :: bs)) (fun z => z = decide (k = 8 ∨ k = 9)) ?_ fun z hC => ?_
  ·
   refine .rg<|.m Z Z<|.yv (.eql Z Z) Z<|.m Z Z<|.b2 (fun h99 => ?_) (fun h99 => ?_)
   ·try simp only [dt] at h99
    exact .gF Z Z Z Z<|.gF Z Z Z Z<|.yv (.pickT Z Z) Z<|.a Z Z<|.nt<|.me _ ⟨rfl,trivial⟩ ⟨rfl,rfl,rfl,rfl,trivial⟩ (fun _ s => s) (by rw [Bool.eq_iff_iff,decide_eq_true_eq];first | (rw [decide_eq_true_eq];omega) | exact ⟨fun _ => by omega,fun _ => rfl⟩ | exact ⟨fun h => (by cases h),fun h => by omega⟩)
   try simp only [df] at h99
   exact .gd Z Z<|.yv (.move Z) Z<|.gd Z Z<|.yv (.eql Z Z) Z<|.yv (.pickF Z Z) Z<|.a Z Z<|.nt<|.me _ ⟨rfl,trivial⟩ ⟨rfl,rfl,rfl,rfl,trivial⟩ (fun _ s => s) (by rw [Bool.eq_iff_iff,decide_eq_true_eq];first | (rw [decide_eq_true_eq];omega) | exact ⟨fun _ => by omega,fun _ => rfl⟩ | exact ⟨fun h => (by cases h),fun h => by omega⟩)
  have e96 := hC
  refine .cd Z (fun h96 => ?_) (fun h96 => ?_)
  ·have q96 : k = 8 ∨ k = 9 := by rw [h96] at e96;exact of_decide_eq_true e96.symm
   refine .sr<|.m Z Z<|.m Z Z<|.yv (.nilCheck Z) Z<|.yv (.fieldAddr Z Fx.field126_4) Z<|.yv (.load Z Fx.agg122 (.head _) Z) Z<|.yv (.lenSl Fx.sl122 Z) Z<|.cs (X := Value) Fx.call112 Z (fun W s => next_st M.ars.length hM.2.1 hb  (s.pickT (hd := [_,_]) (tl := bs) (hd' := [_,_]) [0,1] Z Z)) Z fun z109 hz109 => ?_
   have hc := nextB_lt by_ hM.2.1
   have hc3 := hM.2.2.1
   have hal := hM.len hc
   obtain ⟨bA,oA,pR,cR,hpA,mA,hR⟩ := ar_at hAr hc
   subst hpA
   refine .a Z Z<|.ns<|.m Z Z<|.m Z Z<|.yv (.nilCheck Z) Z<|.yv (.fieldAddr Z Fx.field126_4) Z<|.yv (.load Z Fx.agg122 (.head _) Z) Z<|.m Z Z<|.yv (.indexSl Fx.sl122 Z Z (i := (nextB by_ M.ars.length).1) Z (by omega) (q := oA + (nextB by_ M.ars.length).1 * 1) Z) Z<|.yv (.loadM Z Fx.agg123 mA (k := 0) Z Z) Z<|.yv (.lenSl Fx.sl123 Z) Z<|.cs (X := Value) Fx.call112 Z (fun W s => next_st (arL M (nextB by_ M.ars.length).1) hal.1 hz109  (s.pickT (hd := [_,_]) (tl := bs) (hd' := [_,_]) [0,1] Z Z)) Z fun z119 hz119 => ?_
   have hh := nextB_lt (nextB by_ M.ars.length).2 hal.1
   have hn2 := hM.num hc hh
   obtain ⟨bR,oR,hpR,mR⟩ := arn_at hR hh
   subst hpR
   refine .a Z Z<|.nt<|.sq<|.ft (p := .light _ _ (.light _ _ (.light _ _ (.light _ _ (.light _ _ (.light _ _ (.light _ _ (.light _ _ (.light _ _ (.light _ _ (.light _ _ (.light _ _ (.light _ _ (.alt _ _ _ (.light _ _ (.light _ _ (.alt _ _ _ (.light _ _ (.light _ _ (.alt _ _ _ (.light _ _ (.done)) (.no)))) (.no)))) (.alt _ _ _ (.light _ _ (.light _ _ (.alt _ _ _ (.light _ _ (.light _ _ (.alt _ _ _ (.light _ _ (.done)) (.no)))) (.alt _ _ _ (.alt _ _ _ (.light _ _ (.light _ _ (.light _ _ (.done)))) (.no)) (.no))))) (.no)))))))))))))))) 21 (.light 1 (.light 5 (.light 8 (.light 9 (.light 10 (.light 11 (.light 12 (.light 13 (.light 14 (.light 15 (.light 16 (.light 17 (.light 18 (.alt 0 0 (.light 2 (.light 3 (.alt 4 0 (.light 6 (.light 7 (.alt 19 2 (.light 20 (.done)) (.no)))) (.no)))) (.alt 4 0 (.light 6 (.light 7 (.alt 0 0 (.light 2 (.light 3 (.alt 19 2 (.light 20 (.done)) (.no)))) (.alt 19 2 (.alt 0 0 (.light 2 (.light 3 (.light 20 (.done)))) (.no)) (.no))))) (.no)))))))))))))))) (by kernel_rfl) (by kernel_rfl) Z<|.m Z Z<|.m Z Z<|.m Z Z<|.m Z Z<|.yv (.nilCheck Z) Z<|.yv (.fieldAddr Z Fx.field126_4) Z<|.yv (.load Z Fx.agg122 (.head _) Z) Z<|.m Z Z<|.yv (.indexSl Fx.sl122 Z Z (i := (nextB by_ M.ars.length).1) Z (by omega) (q := oA + (nextB by_ M.ars.length).1 * 1) Z) Z<|.yv (.loadM Z Fx.agg123 mA (k := 0) Z Z) Z<|.m Z Z<|.yv (.indexSl Fx.sl123 Z Z (i := (nextB (nextB by_ M.ars.length).2 (arL M (nextB by_ M.ars.length).1)).1) Z (by omega) (q := oR + (nextB (nextB by_ M.ars.length).2 (arL M (nextB by_ M.ars.length).1)).1 * 1) Z) Z<|.yv (.loadM Z Fx.agg3 mR (k := 0) Z Z) Z<|.h ?_ (.h ?_ .nn)
   ·
    refine .bl Z (Fx.bsl66_3 _ _ _) Z fun b120 => .yv (.indexSl Fx.sl66 Z Z (i := (nextB by_ M.ars.length).1) Z (by omega) (q := (nextB by_ M.ars.length).1) (by omega)) Z<|.yv (.load (v := strV [UInt8.ofNat (97 + (nextB by_ M.ars.length).1)]) Z Fx.agg9 (.head _) (abc_at (by omega))) Z<|.h1<|.ct (X := Value) Fx.call41 Z (fun W s => names_any H 104 3 (by omega) W s.agr) Z fun v124 H124 hn124 u124 => ?_
    obtain ⟨pn124,cn124,e124,_⟩ := hn124.sl
    simp only [List.cons.injEq,and_true,List.length_map,namesB_len] at e124
    subst e124
    obtain ⟨bE,oE,hpE,mE⟩ := name_at hn124 (k := (nextB (nextB by_ M.ars.length).2 (arL M (nextB by_ M.ars.length).1)).1) (by omega)
    subst hpE
    refine .yv (.indexSl Fx.sl66 Z Z (i := (nextB (nextB by_ M.ars.length).2 (arL M (nextB by_ M.ars.length).1)).1) Z (by omega) (q := oE + (nextB (nextB by_ M.ars.length).2 (arL M (nextB by_ M.ars.length).1)).1 * 1) Z) Z<|.yv (.loadM Z Fx.agg9 mE (k := 0) Z Z) Z<|.h1<|.c3 (X := Value × Value × Hp) Fx.call136 Z (fun W s => numbers_st hM.1 (arN M (nextB by_ M.ars.length).1 (nextB (nextB by_ M.ars.length).2 (arL M (nextB by_ M.ars.length).1)).1) (by omega) (hz119.up u124.up)  (s.pickT (hd := [_,_,_]) (tl := bs) (hd' := [_,_,_]) [1,0,2] Z Z)) Z (fun z139 hz139 => (.yv (.loadM Z Fx.agg9 (mE.up hz139.1.up) (k := 0) Z Z)<|.yv (.indexSl Fx.sl66 Z Z (i := (nextB (nextB by_ M.ars.length).2 (arL M (nextB by_ M.ars.length).1)).1) Z (by omega) (q := oE + (nextB (nextB by_ M.ars.length).2 (arL M (nextB by_ M.ars.length).1)).1 * 1) Z)<|.yv (.load (v := strV [UInt8.ofNat (97 + (nextB by_ M.ars.length).1)]) Z Fx.agg9 (.tail _<|.head _) (abc_at (by omega)))<|.yv (.indexSl Fx.sl66 Z Z (i := (nextB by_ M.ars.length).1) Z (by omega) (q := (nextB by_ M.ars.length).1) (by omega))<|.done (by kernel_rfl)<|.done (by kernel_rfl)<|.done (by kernel_rfl)<|.done (by kernel_rfl)<|.done (by kernel_rfl)<|.done (by kernel_rfl)<|.done (by kernel_rfl)<|.done (by kernel_rfl)<|.done (by kernel_rfl)<|.done (by kernel_rfl)<|.done (by kernel_rfl)<|.yv (.move Z)<|.yv (.move Z)<|.nl)) fun z139 hz139 => ?_
    obtain ⟨x139,v139,H139⟩ := z139
    obtain ⟨u139,⟨xs139,rz139,rs139,rl139⟩,q139⟩ := hz139
    dsimp only at u139 rz139 rs139 q139 ⊢
    obtain ⟨pn139,cn139,rfl⟩ := rs139.sl
    refine .yv (.build Z (Fx.bld150_0_1_2_3 _ _ _ _ _ _)) Z<|.fn (tl := [_]) Z<|.sW (.tail<|.tail<|.head) Z Z Fx.size150 (by simp [Value.oneCell',strV]) Z<|.nt<|.rt<|.bR<|.tR<|?_
    refine At.pt (hd := [_,_,_]) (tl := bs) (hd' := [_,_]) [2,0] rfl rfl ?_
    exact Sx.ret1 (.inl rfl) rfl (.cell rfl Fx.agg150 (.head _) rfl) fun W t => ⟨(_,_,H139),by rw [show stmT M k d bd by_ lf = _ from by rw [stmT,if_neg (by omega),if_neg (by omega),if_neg (by omega),if_neg (by omega),if_neg (by omega),if_pos (by omega)],senT];exact ⟨(u124.trans u139),sm_shut (kd := 6) (nm := [UInt8.ofNat (97 + (nextB by_ M.ars.length).1)]) (hd := (nmB 104 (nextB (nextB by_ M.ars.length).2 (arL M (nextB by_ M.ars.length).1)).1)) (ex := _) (th := []) (el := []) (by first | decide | simp [nmB]) (by first | decide | simp [nmB]) (rs139.rep rz139 (by rw [List.length_map];exact rl139)) (Rep.empty (by decide)) (Rep.empty (by decide)),q139,hlf⟩,rfl,by rw [show stmT M k d bd by_ lf = _ from by rw [stmT,if_neg (by omega),if_neg (by omega),if_neg (by omega),if_neg (by omega),if_neg (by omega),if_pos (by omega)],senT];exact t.drop⟩
   refine .ct (X := Value) Fx.call41 Z (fun W s => names_any H 104 3 (by omega) W s.agr) Z fun v124 H124 hn124 u124 => ?_
   obtain ⟨pn124,cn124,e124,_⟩ := hn124.sl
   simp only [List.cons.injEq,and_true,List.length_map,namesB_len] at e124
   subst e124
   obtain ⟨bE,oE,hpE,mE⟩ := name_at hn124 (k := (nextB (nextB by_ M.ars.length).2 (arL M (nextB by_ M.ars.length).1)).1) (by omega)
   subst hpE
   refine .yv (.indexSl Fx.sl66 Z Z (i := (nextB (nextB by_ M.ars.length).2 (arL M (nextB by_ M.ars.length).1)).1) Z (by omega) (q := oE + (nextB (nextB by_ M.ars.length).2 (arL M (nextB by_ M.ars.length).1)).1 * 1) Z) Z<|.yv (.loadM Z Fx.agg9 mE (k := 0) Z Z) Z<|.h ?_ (.h ?_ .nn)
   ·
    refine .bl Z (Fx.bsl66_3 _ _ _) Z fun b120 => .yv (.indexSl Fx.sl66 Z Z (i := (nextB by_ M.ars.length).1) Z (by omega) (q := (nextB by_ M.ars.length).1) (by omega)) Z<|.yv (.load (v := strV [UInt8.ofNat (97 + (nextB by_ M.ars.length).1)]) Z Fx.agg9 (.head _) (abc_at (by omega))) Z<|.h1<|.c3 (X := Value × Value × Hp) Fx.call136 Z (fun W s => numbers_st hM.1 (arN M (nextB by_ M.ars.length).1 (nextB (nextB by_ M.ars.length).2 (arL M (nextB by_ M.ars.length).1)).1) (by omega) (hz119.up u124.up)  (s.pickT (hd := [_,_,_]) (tl := bs) (hd' := [_,_,_]) [1,0,2] Z Z)) Z (fun z139 hz139 => (.yv (.load (v := strV [UInt8.ofNat (97 + (nextB by_ M.ars.length).1)]) Z Fx.agg9 (.tail _<|.head _) (abc_at (by omega)))<|.yv (.indexSl Fx.sl66 Z Z (i := (nextB by_ M.ars.length).1) Z (by omega) (q := (nextB by_ M.ars.length).1) (by omega))<|.yv (.loadM Z Fx.agg9 (mE.up hz139.1.up) (k := 0) Z Z)<|.yv (.indexSl Fx.sl66 Z Z (i := (nextB (nextB by_ M.ars.length).2 (arL M (nextB by_ M.ars.length).1)).1) Z (by omega) (q := oE + (nextB (nextB by_ M.ars.length).2 (arL M (nextB by_ M.ars.length).1)).1 * 1) Z)<|.done (by kernel_rfl)<|.done (by kernel_rfl)<|.done (by kernel_rfl)<|.done (by kernel_rfl)<|.done (by kernel_rfl)<|.done (by kernel_rfl)<|.done (by kernel_rfl)<|.done (by kernel_rfl)<|.done (by kernel_rfl)<|.done (by kernel_rfl)<|.done (by kernel_rfl)<|.yv (.move Z)<|.yv (.move Z)<|.nl)) fun z139 hz139 => ?_
    obtain ⟨x139,v139,H139⟩ := z139
    obtain ⟨u139,⟨xs139,rz139,rs139,rl139⟩,q139⟩ := hz139
    dsimp only at u139 rz139 rs139 q139 ⊢
    obtain ⟨pn139,cn139,rfl⟩ := rs139.sl
    refine .yv (.build Z (Fx.bld150_0_1_2_3 _ _ _ _ _ _)) Z<|.fn (tl := [_]) Z<|.sW (.tail<|.tail<|.head) Z Z Fx.size150 (by simp [Value.oneCell',strV]) Z<|.nt<|.rt<|.bR<|.tR<|?_
    refine At.pt (hd := [_,_,_]) (tl := bs) (hd' := [_,_]) [2,0] rfl rfl ?_
    exact Sx.ret1 (.inl rfl) rfl (.cell rfl Fx.agg150 (.head _) rfl) fun W t => ⟨(_,_,H139),by rw [show stmT M k d bd by_ lf = _ from by rw [stmT,if_neg (by omega),if_neg (by omega),if_neg (by omega),if_neg (by omega),if_neg (by omega),if_pos (by omega)],senT];exact ⟨(u124.trans u139),sm_shut (kd := 6) (nm := [UInt8.ofNat (97 + (nextB by_ M.ars.length).1)]) (hd := (nmB 104 (nextB (nextB by_ M.ars.length).2 (arL M (nextB by_ M.ars.length).1)).1)) (ex := _) (th := []) (el := []) (by first | decide | simp [nmB]) (by first | decide | simp [nmB]) (rs139.rep rz139 (by rw [List.length_map];exact rl139)) (Rep.empty (by decide)) (Rep.empty (by decide)),q139,hlf⟩,rfl,by rw [show stmT M k d bd by_ lf = _ from by rw [stmT,if_neg (by omega),if_neg (by omega),if_neg (by omega),if_neg (by omega),if_neg (by omega),if_pos (by omega)],senT];exact t.drop⟩
   refine .c3 (X := Value × Value × Hp) Fx.call136 Z (fun W s => numbers_st hM.1 (arN M (nextB by_ M.ars.length).1 (nextB (nextB by_ M.ars.length).2 (arL M (nextB by_ M.ars.length).1)).1) (by omega) (hz119.up u124.up)  (s.pickT (hd := [_,_]) (tl := bs) (hd' := [_,_]) [0,1] Z Z)) Z (fun z139 hz139 => (.yv (.loadM Z Fx.agg9 (mE.up hz139.1.up) (k := 0) Z Z)<|.yv (.indexSl Fx.sl66 Z Z (i := (nextB (nextB by_ M.ars.length).2 (arL M (nextB by_ M.ars.length).1)).1) Z (by omega) (q := oE + (nextB (nextB by_ M.ars.length).2 (arL M (nextB by_ M.ars.length).1)).1 * 1) Z)<|.done (by kernel_rfl)<|.done (by kernel_rfl)<|.done (by kernel_rfl)<|.done (by kernel_rfl)<|.done (by kernel_rfl)<|.done (by kernel_rfl)<|.done (by kernel_rfl)<|.done (by kernel_rfl)<|.done (by kernel_rfl)<|.done (by kernel_rfl)<|.done (by kernel_rfl)<|.yv (.move Z)<|.yv (.move Z)<|.nl)) fun z139 hz139 => ?_
   obtain ⟨x139,v139,H139⟩ := z139
   obtain ⟨u139,⟨xs139,rz139,rs139,rl139⟩,q139⟩ := hz139
   dsimp only at u139 rz139 rs139 q139 ⊢
   obtain ⟨pn139,cn139,rfl⟩ := rs139.sl
   refine .h1<|.bl Z (Fx.bsl66_3 _ _ _) Z fun b120 => .yv (.indexSl Fx.sl66 Z Z (i := (nextB by_ M.ars.length).1) Z (by omega) (q := (nextB by_ M.ars.length).1) (by omega)) Z<|.yv (.load (v := strV [UInt8.ofNat (97 + (nextB by_ M.ars.length).1)]) Z Fx.agg9 (.head _) (abc_at (by omega))) Z<|.yv (.build Z (Fx.bld150_0_1_2_3 _ _ _ _ _ _)) Z<|.fn (tl := [_]) Z<|.sW (.tail<|.tail<|.head) Z Z Fx.size150 (by simp [Value.oneCell',strV]) Z<|.nt<|.rt<|.bR<|.tR<|?_
   refine At.pt (hd := [_,_,_]) (tl := bs) (hd' := [_,_]) [2,1] rfl rfl ?_
   exact Sx.ret1 (.inl rfl) rfl (.cell rfl Fx.agg150 (.head _) rfl) fun W t => ⟨(_,_,H139),by rw [show stmT M k d bd by_ lf = _ from by rw [stmT,if_neg (by omega),if_neg (by omega),if_neg (by omega),if_neg (by omega),if_neg (by omega),if_pos (by omega)],senT];exact ⟨(u124.trans u139),sm_shut (kd := 6) (nm := [UInt8.ofNat (97 + (nextB by_ M.ars.length).1)]) (hd := (nmB 104 (nextB (nextB by_ M.ars.length).2 (arL M (nextB by_ M.ars.length).1)).1)) (ex := _) (th := []) (el := []) (by first | decide | simp [nmB]) (by first | decide | simp [nmB]) (rs139.rep rz139 (by rw [List.length_map];exact rl139)) (Rep.empty (by decide)) (Rep.empty (by decide)),q139,hlf⟩,rfl,by rw [show stmT M k d bd by_ lf = _ from by rw [stmT,if_neg (by omega),if_neg (by omega),if_neg (by omega),if_neg (by omega),if_neg (by omega),if_pos (by omega)],senT];exact t.drop⟩
  have q96 : ¬ (k = 8 ∨ k = 9) := by rw [h96] at e96;exact of_decide_eq_false e96.symm
  refine .sr<|.m Z Z<|.yv (.eql Z Z) Z<|.a Z Z<|.nt<|.cd Z (fun h141 => ?_) (fun h141 => ?_)
  ·try simp only [dt] at h141
   refine .sq<|?_
   obtain ⟨bA,oA,pR,cR,hpA,mA,hR⟩ := ar_at hAr hM.2.2.2.1
   subst hpA
   have hal := hM.len hM.2.2.2.1
   have hc := hM.2.2.2.1
   refine .fl (trip := [(_,_,_),(_,_,_),(_,_,_),(_,_,_),(_,_,_),(_,_,_),(_,_,_),(_,_,_),(_,_,_),(_,_,_),(_,_,_),(_,_,_),(_,_,_)]) 13 [(0,0),(1,0),(2,0),(3,0),(4,0),(5,0),(6,0),(7,0),(8,0),(9,0),(10,0),(11,0),(12,2)] (by kernel_rfl) (by kernel_rfl) Z<|.m Z Z<|.m Z Z<|.yv (.nilCheck Z) Z<|.yv (.fieldAddr Z Fx.field126_4) Z<|.yv (.load Z Fx.agg122 (.head _) Z) Z<|.m Z Z<|.yv (.nilCheck Z) Z<|.yv (.fieldAddr Z Fx.field126_3) Z<|.yv (.load Z Fx.agg3 (.head _) Z) Z<|.yv (.indexSl Fx.sl122 Z Z (i := M.own) Z (by omega) (q := oA + M.own * 1) Z) Z<|.yv (.loadM Z Fx.agg123 mA (k := 0) Z Z) Z<|.yv (.lenSl Fx.sl123 Z) Z<|.cs (X := Value) Fx.call112 Z (fun W s => next_st (arL M M.own) hal.1 hb  (s.pickT (hd := [_,_]) (tl := bs) (hd' := [_,_]) [0,1] Z Z)) Z fun z156 hz156 => ?_
   have hh := nextB_lt by_ hal.1
   have hn2 := hM.num hM.2.2.2.1 hh
   obtain ⟨bR,oR,hpR,mR⟩ := arn_at hR hh
   subst hpR
   refine .fn (tl := [_]) Z<|.a Z Z<|.ns<|.m Z Z<|.cs (X := List Value × Value × Hp) Fx.call135 Z (fun W s => num_any M hM.1 2 (by decide) H w0 W _ b _ _ _ _ hz156  (s.pickT (hd := [_,_]) (tl := bs) (hd' := [_,_]) [0,1] Z Z)) Z fun z158 hz158 => ?_
   obtain ⟨x158,v158,H158⟩ := z158
   obtain ⟨u158,r158,q158⟩ := hz158
   dsimp only at u158 r158 q158 ⊢
   generalize hE158 : (numE M 2 (nextB by_ (arL M M.own)).2).1 = e158 at r158
   obtain ⟨op158,nm158,n158,a158⟩ := e158
   obtain ⟨p158,c158,rfl,hs158,hl158⟩ := ex_open r158
   have mA2 := mA.up u158.up
   have mR2 := mR.up u158.up
   refine .al Fx.zero51 Z fun b13 => .sW .head Z Z Fx.size51 (by simp [Value.oneCell',strV]) Z<|.nt<|.sq<|.ft (p := .light _ _ (.light _ _ (.light _ _ (.light _ _ (.light _ _ (.light _ _ (.light _ _ (.light _ _ (.light _ _ (.light _ _ (.light _ _ (.light _ _ (.light _ _ (.light _ _ (.light _ _ (.light _ _ (.alt _ _ _ (.light _ _ (.light _ _ (.alt _ _ _ (.alt _ _ _ (.alt _ _ _ (.light _ _ (.done)) (.no)) (.no)) (.alt _ _ _ (.alt _ _ _ (.alt _ _ _ (.light _ _ (.done)) (.no)) (.no)) (.no))))) (.alt _ _ _ (.alt _ _ _ (.light _ _ (.light _ _ (.alt _ _ _ (.alt _ _ _ (.light _ _ (.done)) (.no)) (.no)))) (.no)) (.no))))))))))))))))))) 23 (.light 1 (.light 4 (.light 6 (.light 7 (.light 8 (.light 9 (.light 10 (.light 11 (.light 12 (.light 13 (.light 14 (.light 15 (.light 16 (.light 17 (.light 18 (.light 19 (.alt 0 0 (.light 2 (.light 3 (.alt 5 0 (.alt 20 2 (.alt 21 2 (.light 22 (.done)) (.no)) (.no)) (.alt 20 2 (.alt 5 0 (.alt 21 2 (.light 22 (.done)) (.no)) (.no)) (.no))))) (.alt 5 0 (.alt 0 0 (.light 2 (.light 3 (.alt 20 2 (.alt 21 2 (.light 22 (.done)) (.no)) (.no)))) (.no)) (.no))))))))))))))))))) (by kernel_rfl) (by kernel_rfl) Z<|.m Z Z<|.yv (.loadW Z Fx.agg51 (.head _) Z) Z<|.m Z Z<|.m Z Z<|.yv (.nilCheck Z) Z<|.yv (.fieldAddr Z Fx.field126_4) Z<|.yv (.load Z Fx.agg122 (.tail _<|.head _) Z) Z<|.m Z Z<|.yv (.nilCheck Z) Z<|.yv (.fieldAddr Z Fx.field126_3) Z<|.yv (.load Z Fx.agg3 (.tail _<|.head _) Z) Z<|.yv (.indexSl Fx.sl122 Z Z (i := M.own) Z (by omega) (q := oA + M.own * 1) Z) Z<|.yv (.loadM Z Fx.agg123 mA2 (k := 0) Z Z) Z<|.m Z Z<|.yv (.indexSl Fx.sl123 Z Z (i := (nextB by_ (arL M M.own)).1) Z (by omega) (q := oR + (nextB by_ (arL M M.own)).1 * 1) Z) Z<|.yv (.loadM Z Fx.agg3 mR2 (k := 0) Z Z) Z<|.h ?_ (.h ?_ .nn)
   ·
    refine .ct (X := Value) Fx.call41 Z (fun W s => names_any H158 104 3 (by omega) W s.agr) Z fun v159 H159 hn159 u159 => ?_
    obtain ⟨pn159,cn159,e159,_⟩ := hn159.sl
    simp only [List.cons.injEq,and_true,List.length_map,namesB_len] at e159
    subst e159
    obtain ⟨bE,oE,hpE,mE⟩ := name_at hn159 (k := (nextB by_ (arL M M.own)).1) (by omega)
    subst hpE
    refine .yv (.indexSl Fx.sl66 Z Z (i := (nextB by_ (arL M M.own)).1) Z (by omega) (q := oE + (nextB by_ (arL M M.own)).1 * 1) Z) Z<|.yv (.loadM Z Fx.agg9 mE (k := 0) Z Z) Z<|.h ?_ (.h ?_ .nn)
    ·
     refine .blR Z (Fx.bsl49_1 _ _ _ _) Z (z := 4) Z (by decide) fun b164 => .h1<|.c3 (X := Value × Value × Hp) Fx.call136 Z (fun W s => numbers_st hM.1 (arN M M.own (nextB by_ (arL M M.own)).1) (by omega) (q158.up u159.up)  (s.pickT (hd := [_,_,_,_]) (tl := bs) (hd' := [_,_,_,_]) [2,0,1,3] Z Z)) Z (fun z179 hz179 => (.yv (.loadM Z Fx.agg9 (mE.up hz179.1.up) (k := 0) Z Z)<|.yv (.indexSl Fx.sl66 Z Z (i := (nextB by_ (arL M M.own)).1) Z (by omega) (q := oE + (nextB by_ (arL M M.own)).1 * 1) Z)<|.done (by kernel_rfl)<|.done (by kernel_rfl)<|.done (by kernel_rfl)<|.done (by kernel_rfl)<|.done (by kernel_rfl)<|.done (by kernel_rfl)<|.done (by kernel_rfl)<|.done (by kernel_rfl)<|.done (by kernel_rfl)<|.done (by kernel_rfl)<|.done (by kernel_rfl)<|.done (by kernel_rfl)<|.done (by kernel_rfl)<|.done (by kernel_rfl)<|.yv (.loadW Z Fx.agg51 (.tail _<|.tail _<|.head _) Z)<|.yv (.move Z)<|.nl)) fun z179 hz179 => ?_
     obtain ⟨x179,v179,H179⟩ := z179
     obtain ⟨u179,⟨xs179,rz179,rs179,rl179⟩,q179⟩ := hz179
     dsimp only at u179 rz179 rs179 q179 ⊢
     obtain ⟨pn179,cn179,rfl⟩ := rs179.sl
     refine .h1<|.apR (news := xs179) Fx.row49 Z (fun _ => (.tail<|.head)) Z rs179 (by rw [rz179.len,List.length_map,rl179]) rz179.one (by simp [maxLen];omega) (by omega) Z (fun _ => (.yv (.loadM Z Fx.agg9 (mE.up u179.up) (k := 0) Z Z)<|.yv (.indexSl Fx.sl66 Z Z (i := (nextB by_ (arL M M.own)).1) Z (by omega) (q := oE + (nextB by_ (arL M M.own)).1 * 1) Z)<|.done (by kernel_rfl)<|.done (by kernel_rfl)<|.done (by kernel_rfl)<|.done (by kernel_rfl)<|.done (by kernel_rfl)<|.done (by kernel_rfl)<|.done (by kernel_rfl)<|.done (by kernel_rfl)<|.done (by kernel_rfl)<|.done (by kernel_rfl)<|.done (by kernel_rfl)<|.done (by kernel_rfl)<|.done (by kernel_rfl)<|.done (by kernel_rfl)<|.done (by kernel_rfl)<|.yv (.move Z)<|.nl)) fun p180 c180 => .yv (.build Z (Fx.bld150_0_2_3 _ _ _ _ _)) Z<|.fn (tl := [_]) Z<|.sW (.tail<|.tail<|.tail<|.head) Z Z Fx.size150 (by simp [Value.oneCell',strV]) Z<|.nt<|.rt<|.bR<|.tR<|?_
     refine At.pt (hd := [_,_,_,_]) (tl := bs) (hd' := [_,_,_]) [1,3,0] rfl rfl ?_
     refine Sx.freezeAt fun Hf uf mf => ?_
     exact Sx.ret1 (.inl rfl) rfl (.cell rfl Fx.agg150 (.head _) rfl) fun W t => ⟨(_,_,Hf),by rw [show stmT M k d bd by_ lf = _ from by rw [stmT,if_neg (by omega),if_neg (by omega),if_neg (by omega),if_neg (by omega),if_neg (by omega),if_neg (by omega),if_pos (by omega)],aftT,hE158];exact ⟨(u158.trans (u159.trans u179)).trans uf,sm_shut (kd := 7) (nm := []) (hd := (nmB 104 (nextB by_ (arL M M.own)).1)) (ex := (.mk op158 nm158 n158 a158 :: (numL M (arN M M.own (nextB by_ (arL M M.own)).1) _).1)) (th := []) (el := []) (by first | decide | simp [nmB]) (by first | decide | simp [nmB]) (mf.rep (z := 4) (RepZ.app (RepZ.single (((r158.up u159.up).up u179.up).up uf.up) rfl) (rz179.up uf.up)) (by simp;omega)) (Rep.empty (by decide)) (Rep.empty (by decide)),q179.up uf.up,hlf⟩,rfl,by rw [show stmT M k d bd by_ lf = _ from by rw [stmT,if_neg (by omega),if_neg (by omega),if_neg (by omega),if_neg (by omega),if_neg (by omega),if_neg (by omega),if_pos (by omega)],aftT,hE158];exact t.drop⟩
    refine .c3 (X := Value × Value × Hp) Fx.call136 Z (fun W s => numbers_st hM.1 (arN M M.own (nextB by_ (arL M M.own)).1) (by omega) (q158.up u159.up)  (s.pickT (hd := [_,_,_]) (tl := bs) (hd' := [_,_,_]) [1,0,2] Z Z)) Z (fun z179 hz179 => (.yv (.loadM Z Fx.agg9 (mE.up hz179.1.up) (k := 0) Z Z)<|.yv (.indexSl Fx.sl66 Z Z (i := (nextB by_ (arL M M.own)).1) Z (by omega) (q := oE + (nextB by_ (arL M M.own)).1 * 1) Z)<|.done (by kernel_rfl)<|.done (by kernel_rfl)<|.done (by kernel_rfl)<|.done (by kernel_rfl)<|.done (by kernel_rfl)<|.done (by kernel_rfl)<|.done (by kernel_rfl)<|.done (by kernel_rfl)<|.done (by kernel_rfl)<|.done (by kernel_rfl)<|.done (by kernel_rfl)<|.done (by kernel_rfl)<|.done (by kernel_rfl)<|.done (by kernel_rfl)<|.yv (.loadW Z Fx.agg51 (.tail _<|.head _) Z)<|.yv (.move Z)<|.nl)) fun z179 hz179 => ?_
    obtain ⟨x179,v179,H179⟩ := z179
    obtain ⟨u179,⟨xs179,rz179,rs179,rl179⟩,q179⟩ := hz179
    dsimp only at u179 rz179 rs179 q179 ⊢
    obtain ⟨pn179,cn179,rfl⟩ := rs179.sl
    refine .h1<|.blR Z (Fx.bsl49_1 _ _ _ _) Z (z := 4) Z (by decide) fun b164 => .h1<|.apR (news := xs179) Fx.row49 Z (fun _ => .head) Z rs179 (by rw [rz179.len,List.length_map,rl179]) rz179.one (by simp [maxLen];omega) (by omega) Z (fun _ => (.yv (.loadM Z Fx.agg9 (mE.up u179.up) (k := 0) Z Z)<|.yv (.indexSl Fx.sl66 Z Z (i := (nextB by_ (arL M M.own)).1) Z (by omega) (q := oE + (nextB by_ (arL M M.own)).1 * 1) Z)<|.done (by kernel_rfl)<|.done (by kernel_rfl)<|.done (by kernel_rfl)<|.done (by kernel_rfl)<|.done (by kernel_rfl)<|.done (by kernel_rfl)<|.done (by kernel_rfl)<|.done (by kernel_rfl)<|.done (by kernel_rfl)<|.done (by kernel_rfl)<|.done (by kernel_rfl)<|.done (by kernel_rfl)<|.done (by kernel_rfl)<|.done (by kernel_rfl)<|.done (by kernel_rfl)<|.yv (.move Z)<|.nl)) fun p180 c180 => .yv (.build Z (Fx.bld150_0_2_3 _ _ _ _ _)) Z<|.fn (tl := [_]) Z<|.sW (.tail<|.tail<|.tail<|.head) Z Z Fx.size150 (by simp [Value.oneCell',strV]) Z<|.nt<|.rt<|.bR<|.tR<|?_
    refine At.pt (hd := [_,_,_,_]) (tl := bs) (hd' := [_,_,_]) [0,3,1] rfl rfl ?_
    refine Sx.freezeAt fun Hf uf mf => ?_
    exact Sx.ret1 (.inl rfl) rfl (.cell rfl Fx.agg150 (.head _) rfl) fun W t => ⟨(_,_,Hf),by rw [show stmT M k d bd by_ lf = _ from by rw [stmT,if_neg (by omega),if_neg (by omega),if_neg (by omega),if_neg (by omega),if_neg (by omega),if_neg (by omega),if_pos (by omega)],aftT,hE158];exact ⟨(u158.trans (u159.trans u179)).trans uf,sm_shut (kd := 7) (nm := []) (hd := (nmB 104 (nextB by_ (arL M M.own)).1)) (ex := (.mk op158 nm158 n158 a158 :: (numL M (arN M M.own (nextB by_ (arL M M.own)).1) _).1)) (th := []) (el := []) (by first | decide | simp [nmB]) (by first | decide | simp [nmB]) (mf.rep (z := 4) (RepZ.app (RepZ.single (((r158.up u159.up).up u179.up).up uf.up) rfl) (rz179.up uf.up)) (by simp;omega)) (Rep.empty (by decide)) (Rep.empty (by decide)),q179.up uf.up,hlf⟩,rfl,by rw [show stmT M k d bd by_ lf = _ from by rw [stmT,if_neg (by omega),if_neg (by omega),if_neg (by omega),if_neg (by omega),if_neg (by omega),if_neg (by omega),if_pos (by omega)],aftT,hE158];exact t.drop⟩
   refine .blR Z (Fx.bsl49_1 _ _ _ _) Z (z := 4) Z (by decide) fun b164 => .h1<|.ct (X := Value) Fx.call41 Z (fun W s => names_any H158 104 3 (by omega) W s.agr) Z fun v159 H159 hn159 u159 => ?_
   obtain ⟨pn159,cn159,e159,_⟩ := hn159.sl
   simp only [List.cons.injEq,and_true,List.length_map,namesB_len] at e159
   subst e159
   obtain ⟨bE,oE,hpE,mE⟩ := name_at hn159 (k := (nextB by_ (arL M M.own)).1) (by omega)
   subst hpE
   refine .yv (.indexSl Fx.sl66 Z Z (i := (nextB by_ (arL M M.own)).1) Z (by omega) (q := oE + (nextB by_ (arL M M.own)).1 * 1) Z) Z<|.yv (.loadM Z Fx.agg9 mE (k := 0) Z Z) Z<|.h1<|.c3 (X := Value × Value × Hp) Fx.call136 Z (fun W s => numbers_st hM.1 (arN M M.own (nextB by_ (arL M M.own)).1) (by omega) (q158.up u159.up)  (s.pickT (hd := [_,_,_,_]) (tl := bs) (hd' := [_,_,_,_]) [2,0,1,3] Z Z)) Z (fun z179 hz179 => (.yv (.loadM Z Fx.agg9 (mE.up hz179.1.up) (k := 0) Z Z)<|.yv (.indexSl Fx.sl66 Z Z (i := (nextB by_ (arL M M.own)).1) Z (by omega) (q := oE + (nextB by_ (arL M M.own)).1 * 1) Z)<|.done (by kernel_rfl)<|.done (by kernel_rfl)<|.done (by kernel_rfl)<|.done (by kernel_rfl)<|.done (by kernel_rfl)<|.done (by kernel_rfl)<|.done (by kernel_rfl)<|.done (by kernel_rfl)<|.done (by kernel_rfl)<|.done (by kernel_rfl)<|.done (by kernel_rfl)<|.done (by kernel_rfl)<|.done (by kernel_rfl)<|.done (by kernel_rfl)<|.yv (.loadW Z Fx.agg51 (.tail _<|.tail _<|.head _) Z)<|.yv (.move Z)<|.nl)) fun z179 hz179 => ?_
   obtain ⟨x179,v179,H179⟩ := z179
   obtain ⟨u179,⟨xs179,rz179,rs179,rl179⟩,q179⟩ := hz179
   dsimp only at u179 rz179 rs179 q179 ⊢
   obtain ⟨pn179,cn179,rfl⟩ := rs179.sl
   refine .h1<|.apR (news := xs179) Fx.row49 Z (fun _ => (.tail<|.head)) Z rs179 (by rw [rz179.len,List.length_map,rl179]) rz179.one (by simp [maxLen];omega) (by omega) Z (fun _ => (.yv (.loadM Z Fx.agg9 (mE.up u179.up) (k := 0) Z Z)<|.yv (.indexSl Fx.sl66 Z Z (i := (nextB by_ (arL M M.own)).1) Z (by omega) (q := oE + (nextB by_ (arL M M.own)).1 * 1) Z)<|.done (by kernel_rfl)<|.done (by kernel_rfl)<|.done (by kernel_rfl)<|.done (by kernel_rfl)<|.done (by kernel_rfl)<|.done (by kernel_rfl)<|.done (by kernel_rfl)<|.done (by kernel_rfl)<|.done (by kernel_rfl)<|.done (by kernel_rfl)<|.done (by kernel_rfl)<|.done (by kernel_rfl)<|.done (by kernel_rfl)<|.done (by kernel_rfl)<|.done (by kernel_rfl)<|.yv (.move Z)<|.nl)) fun p180 c180 => .yv (.build Z (Fx.bld150_0_2_3 _ _ _ _ _)) Z<|.fn (tl := [_]) Z<|.sW (.tail<|.tail<|.tail<|.head) Z Z Fx.size150 (by simp [Value.oneCell',strV]) Z<|.nt<|.rt<|.bR<|.tR<|?_
   refine At.pt (hd := [_,_,_,_]) (tl := bs) (hd' := [_,_,_]) [1,3,0] rfl rfl ?_
   refine Sx.freezeAt fun Hf uf mf => ?_
   exact Sx.ret1 (.inl rfl) rfl (.cell rfl Fx.agg150 (.head _) rfl) fun W t => ⟨(_,_,Hf),by rw [show stmT M k d bd by_ lf = _ from by rw [stmT,if_neg (by omega),if_neg (by omega),if_neg (by omega),if_neg (by omega),if_neg (by omega),if_neg (by omega),if_pos (by omega)],aftT,hE158];exact ⟨(u158.trans (u159.trans u179)).trans uf,sm_shut (kd := 7) (nm := []) (hd := (nmB 104 (nextB by_ (arL M M.own)).1)) (ex := (.mk op158 nm158 n158 a158 :: (numL M (arN M M.own (nextB by_ (arL M M.own)).1) _).1)) (th := []) (el := []) (by first | decide | simp [nmB]) (by first | decide | simp [nmB]) (mf.rep (z := 4) (RepZ.app (RepZ.single (((r158.up u159.up).up u179.up).up uf.up) rfl) (rz179.up uf.up)) (by simp;omega)) (Rep.empty (by decide)) (Rep.empty (by decide)),q179.up uf.up,hlf⟩,rfl,by rw [show stmT M k d bd by_ lf = _ from by rw [stmT,if_neg (by omega),if_neg (by omega),if_neg (by omega),if_neg (by omega),if_neg (by omega),if_neg (by omega),if_pos (by omega)],aftT,hE158];exact t.drop⟩
  try simp only [df] at h141
  refine .cu (X := Bool) [(0,_),(1,_),(2,_),(6,_)] ⟨rfl,rfl,rfl,rfl,trivial⟩ (fun z => [(182,.bool z)]) (fun z => H) (fun z => (.box b (mkC M (.slice pA M.ars.length cA) bv (lf : Nat)) 126 :: .box b6 [.int .i64 0,.string ⟨#[]⟩,.string ⟨#[]⟩,.slice none 0 0,.slice none 0 0,.slice none 0 0] 150 :: bs)) (fun z => z = decide (k = 11 ∧ d < 3)) ?_ fun z hC => ?_
  ·
   refine .rg<|.m Z Z<|.yv (.eql Z Z) Z<|.m Z Z<|.b2 (fun h185 => ?_) (fun h185 => ?_)
   ·try simp only [dt] at h185
    exact .gd Z Z<|.yv (.move Z) Z<|.gd Z Z<|.yv (.lss Z Z) Z<|.yv (.pickT Z Z) Z<|.a Z Z<|.nt<|.me _ ⟨rfl,trivial⟩ ⟨rfl,rfl,rfl,rfl,trivial⟩ (fun _ s => s) (by rw [Bool.eq_iff_iff,decide_eq_true_eq];first | (rw [decide_eq_true_eq];omega) | exact ⟨fun _ => by omega,fun _ => rfl⟩ | exact ⟨fun h => (by cases h),fun h => by omega⟩)
   try simp only [df] at h185
   exact .gF Z Z Z Z<|.gF Z Z Z Z<|.yv (.pickF Z Z) Z<|.a Z Z<|.nt<|.me _ ⟨rfl,trivial⟩ ⟨rfl,rfl,rfl,rfl,trivial⟩ (fun _ s => s) (by rw [Bool.eq_iff_iff,decide_eq_true_eq];first | (rw [decide_eq_true_eq];omega) | exact ⟨fun _ => by omega,fun _ => rfl⟩ | exact ⟨fun h => (by cases h),fun h => by omega⟩)
  have e182 := hC
  refine .cd Z (fun h182 => ?_) (fun h182 => ?_)
  ·have q182 : k = 11 ∧ d < 3 := by rw [h182] at e182;exact of_decide_eq_true e182.symm
   refine .sq<|.sr<|.m Z Z<|.cs (X := Value) Fx.call112 Z (fun W s => next_st 2 (by decide) hb  (s.pickT (hd := [_,_]) (tl := bs) (hd' := [_,_]) [0,1] Z Z)) Z fun z190 hz190 => .yv (.eql Z Z) Z<|.nt<|.cd Z (fun h191 => ?_) (fun h191 => ?_)
   ·try simp only [dt] at h191
    refine .sr<|.m Z Z<|.cs (X := Value × Value × Hp) Fx.call136 Z (fun W s => numbers_st hM.1 2 (by decide) hz190  (s.pickT (hd := [_,_]) (tl := bs) (hd' := [_,_]) [0,1] Z Z)) Z fun z193 hz193 => ?_
    obtain ⟨x193,v193,H193⟩ := z193
    obtain ⟨u193,⟨xs193,rz193,rs193,rl193⟩,q193⟩ := hz193
    dsimp only at u193 rz193 rs193 q193 ⊢
    obtain ⟨pn193,cn193,rfl⟩ := rs193.sl
    refine .a Z Z<|.ns<|.m Z Z<|.m Z Z<|.m Z Z<|.yv (.add Z Z (c := ((d + 1 : Nat) : Int)) ((w6 (by omega)).trans (by omega))) Z<|.cs (X := Value × Value × Hp) Fx.call79 Z (fun W s => hbd (by omega) H193 w0 W _ b _ _ lf _ hlf (hAr.up u193.up) q193  (s.pickT (hd := [_,_]) (tl := bs) (hd' := [_,_]) [0,1] Z Z)) Z fun z198 hz198 => ?_
    obtain ⟨x198,v198,H198⟩ := z198
    obtain ⟨u198,r198,q198,l198⟩ := hz198
    dsimp only at u198 r198 q198 ⊢
    obtain ⟨pb198,cb198,eb198,_⟩ := r198.sl
    simp only [List.cons.injEq,and_true,List.length_map] at eb198
    subst eb198
    refine .yv (.build Z (Fx.bld150_0_3_5 _ _ _ _ _ _ _)) Z<|.sW (.tail<|.head) Z Z Fx.size150 (by simp [Value.oneCell',strV]) Z<|.nt<|.rt<|.tR<|.bR<|.tR<|?_
    refine At.pt (hd := [_,_]) (tl := bs) (hd' := [_,_]) [1,0] rfl rfl ?_
    exact Sx.ret1 (.inl rfl) rfl (.cell rfl Fx.agg150 (.head _) rfl) fun W t => ⟨(_,_,H198),by rw [show stmT M k d bd by_ lf = _ from by rw [stmT,if_neg (by omega),if_neg (by omega),if_neg (by omega),if_neg (by omega),if_neg (by omega),if_neg (by omega),if_neg (by omega),if_pos (by omega)],if_pos (by omega)];exact ⟨(u193.trans u198),sm_shut (kd := 8) (nm := []) (hd := []) (ex := _) (th := []) (el := _) (by first | decide | simp [nmB]) (by first | decide | simp [nmB]) ((rs193.up u198.up).rep (rz193.up u198.up) (by rw [List.length_map];exact rl193)) (Rep.empty (by decide)) r198,q198,l198⟩,rfl,by rw [show stmT M k d bd by_ lf = _ from by rw [stmT,if_neg (by omega),if_neg (by omega),if_neg (by omega),if_neg (by omega),if_neg (by omega),if_neg (by omega),if_neg (by omega),if_pos (by omega)],if_pos (by omega)];exact t.drop⟩
   try simp only [df] at h191
   refine .sk<|.tN<|.sr<|.m Z Z<|.cs (X := Value × Hp) Fx.call137 Z (fun W s => integer_st hM.1 hz190  (s.pickT (hd := [_,_]) (tl := bs) (hd' := [_,_]) [0,1] Z Z)) Z fun z201 hz201 => .a Z Z<|.ns<|.m Z Z<|.cs (X := List Value × Value × Hp) Fx.call135 Z (fun W s => num_any M hM.1 3 (by decide) z201.2 w0 W _ b _ _ _ _ hz201.2  (s.pickT (hd := [_,_]) (tl := bs) (hd' := [_,_]) [0,1] Z Z)) Z fun z203 hz203 => ?_
   obtain ⟨x203,v203,H203⟩ := z203
   obtain ⟨u203,r203,q203⟩ := hz203
   dsimp only at u203 r203 q203 ⊢
   generalize hE203 : (numE M 3 (nextB (nextB by_ 2).2 M.ints).2).1 = e203 at r203
   obtain ⟨op203,nm203,n203,a203⟩ := e203
   obtain ⟨p203,c203,rfl,hs203,hl203⟩ := ex_open r203
   refine .al Fx.zero51 Z fun b16 => .sW .head Z Z Fx.size51 (by simp [Value.oneCell',strV]) Z<|.nt<|.sq<|.ft (p := .light _ _ (.light _ _ (.light _ _ (.light _ _ (.light _ _ (.alt _ _ _ (.alt _ _ _ (.light _ _ (.done)) (.no)) (.alt _ _ _ (.alt _ _ _ (.light _ _ (.done)) (.no)) (.no)))))))) 8 (.light 0 (.light 1 (.light 3 (.light 4 (.light 5 (.alt 2 0 (.alt 6 2 (.light 7 (.done)) (.no)) (.alt 6 2 (.alt 2 0 (.light 7 (.done)) (.no)) (.no)))))))) (by kernel_rfl) (by kernel_rfl) Z<|.m Z Z<|.yv (.loadW Z Fx.agg51 (.head _) Z) Z<|.m Z Z<|.m Z Z<|.yv (.add Z Z (c := ((d + 1 : Nat) : Int)) ((w6 (by omega)).trans (by omega))) Z<|.h ?_ (.h ?_ .nn)
   ·
    refine .bl Z (Fx.bsl49_1 _ _ _ _) Z fun b206 => .h1<|.c3 (X := Value × Value × Hp) Fx.call79 Z (fun W s => hbd (by omega) H203 w0 W _ b _ _ lf _ hlf (hAr.up (hz201.1.trans u203).up) q203  (s.pickT (hd := [_,_,_,_]) (tl := bs) (hd' := [_,_,_,_]) [2,0,1,3] Z Z)) Z (fun z210 hz210 => (.done (by kernel_rfl)<|.done (by kernel_rfl)<|.done (by kernel_rfl)<|.yv (.loadW Z Fx.agg51 (.tail _<|.tail _<|.head _) Z)<|.yv (.move Z)<|.nl)) fun z210 hz210 => ?_
    obtain ⟨x210,v210,H210⟩ := z210
    obtain ⟨u210,r210,q210,l210⟩ := hz210
    dsimp only at u210 r210 q210 ⊢
    obtain ⟨pb210,cb210,eb210,_⟩ := r210.sl
    simp only [List.cons.injEq,and_true,List.length_map] at eb210
    subst eb210
    refine .yv (.build Z (Fx.bld150_0_1_3_5 _ _ _ _ _ _ _ _)) Z<|.fn (tl := [_]) Z<|.sW (.tail<|.tail<|.tail<|.head) Z Z Fx.size150 (by simp [Value.oneCell',strV]) Z<|.nt<|.rt<|.bR<|.tR<|?_
    refine At.pt (hd := [_,_,_,_]) (tl := bs) (hd' := [_,_,_]) [1,3,0] rfl rfl ?_
    refine Sx.freezeBox fun Hf uf mf => ?_
    exact Sx.ret1 (.inl rfl) rfl (.cell rfl Fx.agg150 (.head _) rfl) fun W t => ⟨(_,_,Hf),by rw [show stmT M k d bd by_ lf = _ from by rw [stmT,if_neg (by omega),if_neg (by omega),if_neg (by omega),if_neg (by omega),if_neg (by omega),if_neg (by omega),if_neg (by omega),if_pos (by omega)],if_neg (by omega),fetT,hE203];exact ⟨(hz201.1.trans (u203.trans u210)).trans uf,sm_shut (kd := 9) (nm := (nmB 120 _)) (hd := []) (ex := [.mk op203 nm203 n203 a203]) (th := []) (el := _) (by first | decide | simp [nmB]) (by first | decide | simp [nmB]) (Rep.mk (n := 1) (c := 1) mf (.single ((r203.up (u210).up).up uf.up) rfl) rfl (Nat.le_refl _) (by decide)) (Rep.empty (by decide)) (r210.up uf.up),q210.up uf.up,l210⟩,rfl,by rw [show stmT M k d bd by_ lf = _ from by rw [stmT,if_neg (by omega),if_neg (by omega),if_neg (by omega),if_neg (by omega),if_neg (by omega),if_neg (by omega),if_neg (by omega),if_pos (by omega)],if_neg (by omega),fetT,hE203];exact t.drop⟩
   refine .c3 (X := Value × Value × Hp) Fx.call79 Z (fun W s => hbd (by omega) H203 w0 W _ b _ _ lf _ hlf (hAr.up (hz201.1.trans u203).up) q203  (s.pickT (hd := [_,_,_]) (tl := bs) (hd' := [_,_,_]) [1,0,2] Z Z)) Z (fun z210 hz210 => (.done (by kernel_rfl)<|.done (by kernel_rfl)<|.done (by kernel_rfl)<|.yv (.loadW Z Fx.agg51 (.tail _<|.head _) Z)<|.yv (.move Z)<|.nl)) fun z210 hz210 => ?_
   obtain ⟨x210,v210,H210⟩ := z210
   obtain ⟨u210,r210,q210,l210⟩ := hz210
   dsimp only at u210 r210 q210 ⊢
   obtain ⟨pb210,cb210,eb210,_⟩ := r210.sl
   simp only [List.cons.injEq,and_true,List.length_map] at eb210
   subst eb210
   refine .h1<|.bl Z (Fx.bsl49_1 _ _ _ _) Z fun b206 => .yv (.build Z (Fx.bld150_0_1_3_5 _ _ _ _ _ _ _ _)) Z<|.fn (tl := [_]) Z<|.sW (.tail<|.tail<|.tail<|.head) Z Z Fx.size150 (by simp [Value.oneCell',strV]) Z<|.nt<|.rt<|.bR<|.tR<|?_
   refine At.pt (hd := [_,_,_,_]) (tl := bs) (hd' := [_,_,_]) [0,3,1] rfl rfl ?_
   refine Sx.freezeBox fun Hf uf mf => ?_
   exact Sx.ret1 (.inl rfl) rfl (.cell rfl Fx.agg150 (.head _) rfl) fun W t => ⟨(_,_,Hf),by rw [show stmT M k d bd by_ lf = _ from by rw [stmT,if_neg (by omega),if_neg (by omega),if_neg (by omega),if_neg (by omega),if_neg (by omega),if_neg (by omega),if_neg (by omega),if_pos (by omega)],if_neg (by omega),fetT,hE203];exact ⟨(hz201.1.trans (u203.trans u210)).trans uf,sm_shut (kd := 9) (nm := (nmB 120 _)) (hd := []) (ex := [.mk op203 nm203 n203 a203]) (th := []) (el := _) (by first | decide | simp [nmB]) (by first | decide | simp [nmB]) (Rep.mk (n := 1) (c := 1) mf (.single ((r203.up (u210).up).up uf.up) rfl) rfl (Nat.le_refl _) (by decide)) (Rep.empty (by decide)) (r210.up uf.up),q210.up uf.up,l210⟩,rfl,by rw [show stmT M k d bd by_ lf = _ from by rw [stmT,if_neg (by omega),if_neg (by omega),if_neg (by omega),if_neg (by omega),if_neg (by omega),if_neg (by omega),if_neg (by omega),if_pos (by omega)],if_neg (by omega),fetT,hE203];exact t.drop⟩
  have q182 : ¬ (k = 11 ∧ d < 3) := by rw [h182] at e182;exact of_decide_eq_false e182.symm
  refine .sr<|.m Z Z<|.yv (.eql Z Z) Z<|.m Z Z<|.b2 (fun h215 => ?_) (fun h215 => ?_)
  ·try simp only [dt] at h215
   refine .gd Z Z<|.yv (.move Z) Z<|.gd Z Z<|.cs (X := Value) Fx.call112 Z (fun W s => next_st 3 (by decide) hb  (s.pickT (hd := [_,_]) (tl := bs) (hd' := [_,_]) [0,1] Z Z)) Z fun z217 hz217 => .gd Z Z<|.yv (.eql Z Z) Z<|.yv (.pickT Z Z) Z<|.a Z Z<|.nt<|.cd Z (fun h212 => ?_) (fun h212 => ?_)
   ·try simp only [dt] at h212
    refine .sr<|.yv (.build Z (Fx.bld150_0 _)) Z<|.sW (.tail<|.head) Z Z Fx.size150 (by simp [Value.oneCell',strV]) Z<|.nt<|.rt<|.bR<|.tR<|?_
    refine At.pt (hd := [_,_]) (tl := bs) (hd' := [_,_]) [1,0] rfl rfl ?_
    exact Sx.ret1 (.inl rfl) rfl (.cell rfl Fx.agg150 (.head _) rfl) fun W t => ⟨(_,_,H),by rw [show stmT M k d bd by_ lf = _ from by rw [stmT,if_neg (by omega),if_neg (by omega),if_neg (by omega),if_neg (by omega),if_neg (by omega),if_neg (by omega),if_neg (by omega),if_neg (by omega),if_pos (by omega)]];exact ⟨.refl,sm_shut (kd := 10) (nm := []) (hd := []) (ex := []) (th := []) (el := []) (by first | decide | simp [nmB]) (by first | decide | simp [nmB]) (Rep.empty (by decide)) (Rep.empty (by decide)) (Rep.empty (by decide)),hz217,hlf⟩,rfl,by rw [show stmT M k d bd by_ lf = _ from by rw [stmT,if_neg (by omega),if_neg (by omega),if_neg (by omega),if_neg (by omega),if_neg (by omega),if_neg (by omega),if_neg (by omega),if_neg (by omega),if_pos (by omega)]];exact t.drop⟩
   try simp only [df] at h212
   exact .sk<|.bN<|.tN<|.me _ trivial ⟨rfl,rfl,trivial⟩ (fun _ s => s) (by first | exact ⟨by rw [if_neg (by omega)];exact hb,by omega⟩ | exact ⟨by rw [if_pos (by omega)];exact hz217,by omega⟩)
  try simp only [df] at h215
  exact .gF Z Z Z Z<|.gF Z Z Z Z<|.gF Z Z Z Z<|.yv (.pickF Z Z) Z<|.a Z Z<|.nt<|.cF Z<|.sk<|.bN<|.tN<|.me _ trivial ⟨rfl,rfl,trivial⟩ (fun _ s => s) (by first | exact ⟨by rw [if_neg (by omega)];exact hb,by omega⟩ | exact ⟨by rw [if_pos (by omega)];exact hz217,by omega⟩)
 obtain ⟨hbz,hc1,hc2,hc3,hc4,hc5,hc6,hc7,hc8,hc9⟩ := hC
 generalize hb1 : (if k = 12 then (nextB by_ 3).2 else by_) = b1 at hbz
 refine .sr<|.m Z Z<|.cs (X := Value × Hp) Fx.call137 Z (fun W s => integer_st hM.1 hbz  (s.pickT (hd := [_,_]) (tl := bs) (hd' := [_,_]) [0,1] Z Z)) Z fun z222 hz222 => .a Z Z<|.ns<|.m Z Z<|.m Z Z<|.cs (X := List Value × Value × Hp) Fx.call135 Z (fun W s => num_any M hM.1 3 (by decide) z222.2 w0 W _ b _ _ _ _ hz222.2  (s.pickT (hd := [_,_]) (tl := bs) (hd' := [_,_]) [0,1] Z Z)) Z fun z225 hz225 => ?_
 obtain ⟨x225,v225,H225⟩ := z225
 obtain ⟨u225,r225,q225⟩ := hz225
 dsimp only at u225 r225 q225 ⊢
 generalize hE225 : (numE M 3 (nextB b1 M.ints).2).1 = e225 at r225
 obtain ⟨op225,nm225,n225,a225⟩ := e225
 obtain ⟨p225,c225,rfl,hs225,hl225⟩ := ex_open r225
 refine .bl Z (Fx.bsl49_1 _ _ _ _) Z fun b226 => .yv (.build Z (Fx.bld150_0_1_3 _ _ _ _ _)) Z<|.sW (.tail<|.tail<|.head) Z Z Fx.size150 (by simp [Value.oneCell',strV]) Z<|.nt<|.rt<|?_
 refine At.pt (hd := [_,_,_]) (tl := bs) (hd' := [_,_,_]) [0,2,1] rfl rfl ?_
 refine Sx.freezeBox fun Hf uf mf => ?_
 exact Sx.ret1 (.inl rfl) rfl (.cell rfl Fx.agg150 (.head _) rfl) fun W t => ⟨(_,_,Hf),by rw [show stmT M k d bd by_ lf = _ from by rw [stmT,if_neg (by omega),if_neg (by omega),if_neg (by omega),if_neg (by omega),if_neg (by omega),if_neg (by omega),if_neg (by omega),if_neg (by omega),if_neg (by omega)],hb1,asgT,hE225];exact ⟨(hz222.1.trans u225).trans uf,sm_shut (kd := 1) (nm := (nmB 120 _)) (hd := []) (ex := [.mk op225 nm225 n225 a225]) (th := []) (el := []) (by first | decide | simp [nmB]) (by first | decide | simp [nmB]) (Rep.mk (n := 1) (c := 1) mf (.single ((r225).up uf.up) rfl) rfl (Nat.le_refl _) (by decide)) (Rep.empty (by decide)) (Rep.empty (by decide)),q225.up uf.up,hlf⟩,rfl,by rw [show stmT M k d bd by_ lf = _ from by rw [stmT,if_neg (by omega),if_neg (by omega),if_neg (by omega),if_neg (by omega),if_neg (by omega),if_neg (by omega),if_neg (by omega),if_neg (by omega),if_neg (by omega)],hb1,asgT,hE225];exact t.drop⟩
def StPl (st : Nat → Bs → Nat → Sm × (Bs × Nat)) (M : Mk) (d : Nat) : Prop := ∀ (H : Hp) (w0 W : World) (bs : List Res) (b : Nat) (arV bv : Value) (lf : Nat) (by_ : Bs) (k : Nat),lf ≤ 12 → Rep H (.seq 1 (M.ars.map dAr)) [arV] → Rep H (.seq 1 ((by_).map dU8)) [bv] → St H w0 (.box b (mkC M arV bv (lf : Nat)) 126 :: bs) W →
 Calls Tryz.prog 113 #[.pointer (some ⟨b,0,none⟩),.int .i64 (k : Nat),.int .i64 (d : Nat)] W fun e W' => ∃ z : List Value × Value × Hp,(HUp w0 H z.2.2 ∧ Rep z.2.2 (dSm .i64 (st k by_ lf).1) z.1 ∧ Rep z.2.2 (.seq 1 (((st k by_ lf).2.1).map dU8)) [z.2.1] ∧ (st k by_ lf).2.2 ≤ 12) ∧ e = .returned (.agg z.1.toArray) ∧ St z.2.2 w0 (.box b (mkC M arV z.2.1 ((st k by_ lf).2.2 : Nat)) 126 :: bs) W'
set_option maxRecDepth 100000 in
theorem body_step (M : Mk) (d : Nat) (hd : d ≤ 3) (st : Nat → Bs → Nat → Sm × (Bs × Nat)) (hst_ : StPl st M d) (hmono : ∀ k b lf,(st k b lf).2.2 ≤ lf) : BodOf (bodL st 13) M d := by
 intro H w0 W bs b arV bv lf by_ hlf hAr hb s
 obtain ⟨pA,cA,eA,_⟩ := hAr.sl
 simp only [List.cons.injEq,and_true,List.length_map] at eA
 subst eA
 refine Sx.enterS Tryz.func79 rfl Tryz.ntmps79 rfl s ?_
 refine .sr<|.a Z Z<|.ns<|.a Z Z<|?_
 refine Sx.row0 150 6 ?_
 refine .nt<|.sq<|.bk<|.lp (X := Nat × Nat × Hp × Value × List Value × Value × Nat) [(0,_),(1,_)] ⟨rfl,rfl,trivial⟩ (bs) (fun z => [(5,z.2.2.2.1)]) (fun z => z.2.2.1) (fun z => [.row 150 6 z.2.2.2.1 z.1 z.2.2.2.2.1,.box b (mkC M (.slice pA M.ars.length cA) z.2.2.2.2.2.1 (z.2.2.2.2.2.2 : Nat)) 126]) (fun z => z.2.2.2.2.2.2 < z.2.1 ∧ z.2.2.2.2.2.2 ≤ 12 ∧ z.1 + z.2.2.2.2.2.2 ≤ 12 ∧ HUp w0 H z.2.2.1 ∧ ∃ (es : List Sm) (b1 : Bs),es.length = z.1 ∧ RepZ z.2.2.1 6 (es.map (dSm .i64)) z.2.2.2.2.1 ∧ Rep z.2.2.1 (.seq 1 ((b1).map dU8)) [z.2.2.2.2.2.1] ∧ bodL st 13 (by_,lf) = (es ++ (bodL st z.2.1 (b1,z.2.2.2.2.2.2)).1,(bodL st z.2.1 (b1,z.2.2.2.2.2.2)).2)) (fun z => z.2.1) (0,13,H,.slice none 0 0,[],bv,lf) (fun _ s => s) ⟨rfl,trivial⟩ ⟨by dsimp only;omega,hlf,by dsimp only;omega,.refl,[],by_,rfl,RepZ.nil,hb,rfl⟩ fun z hC => ?_
 obtain ⟨k,f,H1,r,xs,bv,lf1⟩ := z
 dsimp only at hC ⊢
 obtain ⟨hf,hl1,hkl,u1,es,b1,hlen,hz,hb1,heq⟩ := hC
 obtain ⟨f,rfl⟩ : ∃ g,f = g + 1 := ⟨f - 1,by omega⟩
 obtain ⟨pB,cB,eB,hcB⟩ := hb1.sl
 simp only [List.cons.injEq,and_true,List.length_map] at eB hcB
 subst eB
 have hcapB := hb1.cap
 refine .sq<|.sr<|.m Z Z<|.yv (.nilCheck Z) Z<|.yv (.fieldAddr Z Fx.field126_6) Z<|.yv (.load Z Fx.agg22 (.tail _<|.head _) Z) Z<|.yv (.lenSl Fx.sl22 Z) Z<|.yv (.gtr Z Z) Z<|.m Z Z<|.b2 (fun h13 => ?_) (fun h13 => ?_)
 ·try simp only [dt] at h13
  have hb0 : b1 ≠ [] := by intro e;rw [e] at h13;simp at h13
  refine .gd Z Z<|.yv (.move Z) Z<|.gd Z Z<|.yv (.nilCheck Z) Z<|.gd Z Z<|.yv (.fieldAddr Z Fx.field126_7) Z<|.gd Z Z<|.yv (.load Z Fx.agg3 (.tail _<|.head _) Z) Z<|.gd Z Z<|.yv (.gtr Z Z) Z<|.yv (.pickT Z Z) Z<|.nt<|.cd Z (fun h19 => ?_) (fun h19 => ?_)
  ·try simp only [dt] at h19
   have hnn : ¬ (b1 = [] ∨ lf1 = 0) := fun h => h.elim hb0 (fun e => by omega)
   refine .sk<|.tN<|.bk<|.sr<|.m Z Z<|.cs (X := Value) Fx.call112 Z (fun W s => next_st 14 (by decide) hb1  (s.pickT (hd := [_,_]) (tl := bs) (hd' := [_,_]) [1,0] Z Z)) Z fun z21 hz21 => .a Z Z<|.nt<|.sq<|.sr<|.m Z Z<|.yv (.eql Z Z) Z<|.nt<|.cd Z (fun h23 => ?_) (fun h23 => ?_)
   ·try simp only [dt] at h23
    have h13 : (nextB b1 14).1 = 13 := by omega
    have heqF : bodL st 13 (by_,lf) = (es,((nextB b1 14).2,lf1)) := by rw [heq,bodL,if_neg hnn,if_pos h13,List.append_nil]
    refine .sr<|.m Z Z<|.a Z Z<|.nt<|.rt<|.tR<|.bR<|.tR<|.bR<|.tR<|?_
    refine At.pt (hd := [_,_]) (tl := bs) (hd' := [_,_]) [1,0] rfl rfl ?_
    refine Sx.freezeSeq (ds := es.map (dSm .i64)) (by simp;omega) hz fun H3 p3 c3 u3 hr3 hs3 => ?_
    exact Sx.ret1 (.inl rfl) rfl (.tmp rfl) fun W t => ⟨(r,_,H3),by rw [heqF];exact ⟨u1.trans u3,hs3,hz21.up u3.up,hl1⟩,rfl,by rw [heqF];exact t⟩
   try simp only [df] at h23
   have h13 : ¬ (nextB b1 14).1 = 13 := by omega
   refine .sk<|.tN<|.sr<|.m Z Z<|.yv (.nilCheck Z) Z<|.yv (.fieldAddr Z Fx.field126_7) Z<|.yv (.load Z Fx.agg3 (.head _) Z) Z<|.yv (.sub Z Z (c := ((lf1 - 1 : Nat) : Int)) ((w6 (by omega)).trans (by omega))) Z<|.yv (.nilCheck Z) Z<|.yv (.fieldAddr Z Fx.field126_7) Z<|.st (l' := mkC M (.slice pA M.ars.length cA) z21 (lf1 - 1 : Nat)) .head Z Z Fx.size3 Z (nb Z) Z<|.nt<|.rg<|.m Z Z<|.m Z Z<|.m Z Z<|.m Z Z<|.cs (X := List Value × Value × Hp) Fx.call113 Z (fun W s => hst_ H1 w0 W _ b _ _ (lf1 - 1) (nextB b1 14).2 (nextB b1 14).1 (by omega) (hAr.up u1.up) hz21  (s.pickT (hd := [_,_]) (tl := bs) (hd' := [_,_]) [0,1] Z Z)) Z fun z36 hz36 => ?_
   have hst := hmono (nextB b1 14).1 (nextB b1 14).2 (lf1 - 1)
   obtain ⟨x36,v36,H36⟩ := z36
   obtain ⟨u36,r36,q36,l36⟩ := hz36
   dsimp only at u36 r36 q36 ⊢
   generalize hE36 : (st (nextB b1 14).1 (nextB b1 14).2 (lf1 - 1)) = e36 at r36 q36 l36 ⊢
   obtain ⟨e36,b36s,lf36⟩ := e36
   dsimp only at r36 q36 l36 ⊢
   obtain ⟨kd,nm,hd_,ex,th,el⟩ := e36
   obtain ⟨p1,c1,p2,c2,p3,c3,rfl,hs1,hs2,hs3,hn1,hn2⟩ := sm_open r36
   rw [hE36] at hst
   dsimp only at hst
   exact .bl Z (Fx.bsl98_1 _ _ _ _ _ _) Z fun b37 => .ap (news := [.int .i64 kd.toNat,strV nm,strV hd_,.slice p1 ex.length c1,.slice p2 th.length c2,.slice p3 el.length c3]) Fx.row98 Z (fun _ => (.tail<|.tail<|.head)) Z (.box (.head _) z0) Z (by simp [Value.oneCell',strV]) (by simp [maxLen];omega) (by omega) Z fun r38 _ => .a Z Z<|.nl<|.bN<|.tN<|.ag (x := (k,f + 1,H1,r,xs,.slice pB b1.length cB,lf1)) (k + 1,f,H36,r38,xs ++ [.int .i64 kd.toNat,strV nm,strV hd_,.slice p1 ex.length c1,.slice p2 th.length c2,.slice p3 el.length c3],v36,lf36) ⟨rfl,trivial⟩ ⟨rfl,rfl,trivial⟩ (fun _ s => (s.pickT (hd := [_,_,_]) (tl := bs) (hd' := [_,_]) [2,1] Z Z)) ⟨by dsimp only;have := hst;omega,l36,by dsimp only;omega,u1.trans u36,es ++ [.mk kd nm hd_ ex th el],b36s,by simp;omega,by dsimp only;rw [List.map_append];exact (hz.up u36.up).snoc r36 Z,q36,by dsimp only;rw [heq,bodL,if_neg hnn,if_neg h13,hE36,List.append_assoc];rfl⟩ (by dsimp only;omega)
  try simp only [df] at h19
  have hbe : b1 = [] ∨ lf1 = 0 := .inr (by omega)
  have heqF : bodL st 13 (by_,lf) = (es,(b1,lf1)) := by rw [heq,bodL,if_pos hbe,List.append_nil]
  refine .ex<|.tE<|.tE<|.bE<|.tN<|.sr<|.m Z Z<|.a Z Z<|.nt<|.rt<|?_
  refine At.pt (hd := [_,_]) (tl := bs) (hd' := [_,_]) [0,1] rfl rfl ?_
  refine Sx.freezeSeq (ds := es.map (dSm .i64)) (by simp;omega) hz fun H3 p3 c3 u3 hr3 hs3 => ?_
  exact Sx.ret1 (.inl rfl) rfl (.tmp rfl) fun W t => ⟨(r,_,H3),by rw [heqF];exact ⟨u1.trans u3,hs3,hb1.up u3.up,hl1⟩,rfl,by rw [heqF];exact t⟩
 try simp only [df] at h13
 have hbe : b1 = [] ∨ lf1 = 0 := .inl (List.eq_nil_of_length_eq_zero (by omega))
 have heqF : bodL st 13 (by_,lf) = (es,(b1,lf1)) := by rw [heq,bodL,if_pos hbe,List.append_nil]
 refine .gF Z Z Z Z<|.gF Z Z Z Z<|.gF Z Z Z Z<|.gF Z Z Z Z<|.gF Z Z Z Z<|.yv (.pickF Z Z) Z<|.nt<|.cF Z<|.ex<|.tE<|.tE<|.bE<|.tN<|.sr<|.m Z Z<|.a Z Z<|.nt<|.rt<|?_
 refine At.pt (hd := [_,_]) (tl := bs) (hd' := [_,_]) [0,1] rfl rfl ?_
 refine Sx.freezeSeq (ds := es.map (dSm .i64)) (by simp;omega) hz fun H3 p3 c3 u3 hr3 hs3 => ?_
 exact Sx.ret1 (.inl rfl) rfl (.tmp rfl) fun W t => ⟨(r,_,H3),by rw [heqF];exact ⟨u1.trans u3,hs3,hb1.up u3.up,hl1⟩,rfl,by rw [heqF];exact t⟩
theorem stmT_mono (M : Mk) (k d : Nat) (bd : Bs × Nat → List Sm × (Bs × Nat)) (hm : ∀ x,(bd x).2.2 ≤ x.2) (b : Bs) (lf : Nat) : (stmT M k d bd b lf).2.2 ≤ lf := by
 unfold stmT
 split
 ·exact Nat.le_refl _
 split
 ·exact Nat.le_refl _
 split
 ·exact Nat.le_refl _
 split
 ·exact Nat.le_trans (hm _) (hm _)
 split
 ·exact hm _
 split
 ·exact Nat.le_refl _
 split
 ·exact Nat.le_refl _
 split
 ·split
  ·exact hm _
  ·exact hm _
 split
 ·exact Nat.le_refl _
 ·exact Nat.le_refl _
theorem bodL_mono (st : Nat → Bs → Nat → Sm × (Bs × Nat)) (hm : ∀ k b lf,(st k b lf).2.2 ≤ lf) : ∀ f x,(bodL st f x).2.2 ≤ x.2
 | 0,x => Nat.le_refl _
 | f + 1,(b,lf) => by
  unfold bodL
  split
  ·exact Nat.le_refl _
  ·split
   ·exact Nat.le_refl _
   ·refine Nat.le_trans (bodL_mono st hm f _) (Nat.le_trans (hm _ _ _) (Nat.sub_le _ _))
theorem bodE_mono (M : Mk) : ∀ f x,(bodE M f x).2.2 ≤ x.2
 | 0,x => bodL_mono _ (fun k b lf => stmT_mono M k 3 _ (fun _ => Nat.le_refl _) b lf) _ _
 | f + 1,x => bodL_mono _ (fun k b lf => stmT_mono M k (2 - f) _ (bodE_mono M f) b lf) _ _
theorem bodyJ_any (M : Mk) (hM : okA M) : ∀ f,f ≤ 3 → BodOf (bodE M f) M (3 - f)
 | 0,_ => body_step M 3 (by omega) _ (stmt_step M hM 3 (by omega) _ fun h => by omega) fun k b lf => stmT_mono M k 3 _ (fun _ => Nat.le_refl _) b lf
 | f + 1,hf => by
  have e : 3 - (f + 1) = 2 - f := by omega
  rw [e]
  refine body_step M (2 - f) (by omega) (fun k => stmT M k (2 - f) (bodE M f)) (stmt_step M hM (2 - f) (by omega) _ fun _ => ?_) fun k b lf => stmT_mono M k (2 - f) _ (bodE_mono M f) b lf
  rw [show 2 - f + 1 = 3 - f by omega]
  exact bodyJ_any M hM f (by omega)
theorem take_min {α : Type} (l : List α) (n : Nat) : l.take (min l.length n) = l.take n := by
 by_cases h : n ≤ l.length
 ·rw [Nat.min_eq_right h]
 ·rw [Nat.min_eq_left (by omega),List.take_length,List.take_of_length_le (by omega)]
def okB (M : Mk) : Prop := 0 < M.ints ∧ M.ints ≤ 3 ∧ M.flags ≤ 2 ∧ 0 < M.ars.length ∧ M.ars.length ≤ 3 ∧ M.own < M.ars.length ∧ ∀ l ∈ M.ars,0 < l.length ∧ l.length ≤ 3 ∧ ∀ n ∈ l,n ≤ 2
theorem okB_at {M : Mk} (h : okB M) {k : Nat} (hk : k < arL M M.own) : okA (M.at k) := by
 obtain ⟨h1,h2,h3,h4,h5,h6,h7⟩ := h
 refine ⟨⟨h1,h2,?_,h3⟩,h4,h5,h6,h7⟩
 have h8 := h7 _ (List.getElem_mem h6)
 unfold arL at hk
 show arN M M.own k ≤ 2
 unfold arN
 rw [getD_at h6] at hk ⊢
 rw [getD_at hk];exact h8.2.2 _ (List.getElem_mem hk)
set_option maxHeartbeats 1000000 in
set_option maxRecDepth 100000 in
theorem handlers_st (M : Mk) (hM : okB M) (l : List Cd) (hll : l.length ≤ arL M M.own) (H : Hp) (w0 W : World) (bs : List Res) (b : Nat) (arV bv v : Value) (left : Int) (hv : Rep H (.seq 2 (l.map dCd)) [v]) (hAr : Rep H (.seq 1 (M.ars.map dAr)) [arV]) (s : St H w0 (.box b (mkC M arV bv left) 126 :: bs) W) :
 Calls Tryz.prog 43 #[.pointer (some ⟨b,0,none⟩),v] W fun e W' => ∃ z : Value × Nat × Hp × Value × Int,(HUp w0 H z.2.2.1 ∧ Rep z.2.2.1 (.seq 3 ((hdsP M 0 l).map (dHd .i64))) [z.1]) ∧ e = .returned z.1 ∧ St z.2.2.1 w0 (.box b (mkC { M with params := z.2.1 } arV z.2.2.2.1 z.2.2.2.2) 126 :: bs) W' := by
 obtain ⟨pA,cA,eA,_⟩ := hAr.sl
 simp only [List.cons.injEq,and_true,List.length_map] at eA
 subst eA
 obtain ⟨bA,oA,pR,cR,hpA,mA,hR⟩ := ar_at hAr hM.2.2.2.2.2.1
 subst hpA
 obtain ⟨pl,cl,el,_⟩ := hv.sl
 simp only [List.cons.injEq,and_true,List.length_map] at el
 subst el
 have hs := hv
 have hcap := hs.cap
 refine Sx.enterS Tryz.func43 rfl Tryz.ntmps43 rfl s ?_
 refine .sr<|.a Z Z<|.ns<|.a Z Z<|?_
 refine Sx.row0 100 3 ?_
 refine .nt<|.sq<|.sr<|.m Z Z<|.yv (.lenSl Fx.sl118 Z) Z<|.m Z Z<|.nt<|.bk<|.lp (X := Nat × Nat × Hp × Value × List Value × Value × Int) [(0,_),(8,_),(9,_)] ⟨rfl,rfl,rfl,trivial⟩ (bs) (fun z => [(5,z.2.2.2.1),(10,.int .i64 (z.1 : Nat))]) (fun z => z.2.2.1) (fun z => [.row 100 3 z.2.2.2.1 z.1 z.2.2.2.2.1,.box b (mkC ({ M with params := z.2.1 }) (.slice (some ⟨bA,oA,none⟩) M.ars.length cA) z.2.2.2.2.2.1 z.2.2.2.2.2.2) 126]) (fun z => z.1 ≤ l.length ∧ HUp w0 H z.2.2.1 ∧ RepZ z.2.2.1 3 ((hdsP M 0 (l.take z.1)).map (dHd .i64)) z.2.2.2.2.1) (fun z => l.length - z.1) (0,M.params,H,.slice none 0 0,[],bv,left) (fun _ s => s) ⟨rfl,rfl,trivial⟩ ⟨by simp,.refl,RepZ.nil⟩ fun z hC => ?_
 obtain ⟨k,pv,H1,r,xs,bv,left⟩ := z
 dsimp only at hC ⊢
 obtain ⟨hk0,u1,hz⟩ := hC
 refine .sr<|.yv (.lss Z Z) Z<|.nt<|.sq<|.cd Z (fun h11 => ?_) (fun h11 => ?_)
 ·try simp only [dt] at h11
  have hk : k < l.length := by omega
  obtain ⟨bE,oE,cE,hpE,rE,lE,mE⟩ := (hs.up u1.up).elem (map_at (f := dCd) hk)
  cases hpE
  generalize hx : l[k] = cd at rE
  obtain ⟨pc,cc,rfl,hcb⟩ := cd_open rE
  have hal := hM.2.2.2.2.2.2 _ (List.getElem_mem hM.2.2.2.2.2.1)
  have hown := hM.2.2.2.2.2.1
  have hkA : k < arL M M.own := by omega
  have hokA : okA (M.at k) := okB_at hM hkA
  have hn2 : arN M M.own k ≤ 2 := (hokA.1).2.2.1
  have hk3 : k < 3 := by have := (hokA.len hown).2;exact Nat.lt_of_lt_of_le hkA this
  obtain ⟨bR,oR,hpR,mR⟩ := arn_at hR hkA
  subst hpR
  have mA1 := mA.up u1.up
  have mR1 := mR.up u1.up
  have hccap := hcb.cap
  refine .sk<|.tN<|.sq<|.bk<|.sr<|.m Z Z<|.yv (.indexSl Fx.sl118 Z Z Z (by omega) (q := oE + k * 2) Z) Z<|.yv (.loadMW Z Fx.agg128 mE Z) Z<|.al Fx.zero128 Z fun b7 => .a Z Z<|.sW .head Z Z Fx.size128 (by simp [Value.oneCell',strV]) Z<|.nt<|.sq<|.fl (trip := [(_,_,_),(_,_,_),(_,_,_),(_,_,_),(_,_,_),(_,_,_),(_,_,_),(_,_,_),(_,_,_),(_,_,_),(_,_,_),(_,_,_),(_,_,_),(_,_,_),(_,_,_),(_,_,_)]) 16 [(0,0),(1,0),(2,0),(3,0),(4,0),(5,0),(6,0),(7,0),(8,0),(9,0),(10,0),(11,0),(12,0),(13,0),(14,0),(15,0)] (by kernel_rfl) (by kernel_rfl) Z<|.m Z Z<|.m Z Z<|.yv (.nilCheck Z) Z<|.yv (.fieldAddr Z Fx.field126_4) Z<|.yv (.load Z Fx.agg122 (.tail _<|.tail _<|.head _) Z) Z<|.m Z Z<|.yv (.nilCheck Z) Z<|.yv (.fieldAddr Z Fx.field126_3) Z<|.yv (.load Z Fx.agg3 (.tail _<|.tail _<|.head _) Z) Z<|.yv (.indexSl Fx.sl122 Z Z (i := M.own) Z (by omega) (q := oA + M.own * 1) Z) Z<|.yv (.loadM Z Fx.agg123 mA1 (k := 0) Z Z) Z<|.m Z Z<|.yv (.indexSl Fx.sl123 Z Z (i := k) Z (by omega) (q := oR + k * 1) Z) Z<|.yv (.loadM Z Fx.agg3 mR1 (k := 0) Z Z) Z<|.yv (.nilCheck Z) Z<|.yv (.fieldAddr Z Fx.field126_5) Z<|.fn (tl := [_]) Z<|.st (l' := mkC (M.at k) (.slice (some ⟨bA,oA,none⟩) M.ars.length cA) bv left) (.tail<|.tail<|.head) Z Z Fx.size3 Z (nb Z) Z<|.nt<|.sq<|.fl (trip := [(_,_,_),(_,_,_),(_,_,_),(_,_,_),(_,_,_),(_,_,_),(_,_,_),(_,_,_),(_,_,_),(_,_,_)]) 10 [(0,0),(1,0),(2,0),(3,0),(4,0),(5,0),(6,0),(7,0),(8,0),(9,0)] (by kernel_rfl) (by kernel_rfl) Z<|.m Z Z<|.yv (.fieldAddr Z Fx.field128_1) Z<|.yv (.load Z Fx.agg22 (.head _) Z) Z<|.yv (.fieldAddr Z Fx.field128_1) Z<|.yv (.load Z Fx.agg22 (.head _) Z) Z<|.yv (.lenSl Fx.sl22 Z) Z<|.yv (.call Fx.call40 Z (fun W s => least_any H1 cd.bytes.length 40 W s.agr)) Z<|.yv (.cutHi2 Fx.sl22 Z Z (h := min cd.bytes.length 40) Z (by have := hcb.len.2.1;omega)) Z<|.yv (.nilCheck Z) Z<|.yv (.fieldAddr Z Fx.field126_6) Z<|.fn (tl := [_]) Z<|.st (l' := mkC (M.at k) (.slice (some ⟨bA,oA,none⟩) M.ars.length cA) _ left) (.tail<|.tail<|.head) Z Z Fx.size22 Z (nb Z) Z<|.ns<|.m Z Z<|.yv (.nilCheck Z) Z<|.yv (.fieldAddr Z Fx.field126_7) Z<|.st (l' := mkC (M.at k) (.slice (some ⟨bA,oA,none⟩) M.ars.length cA) _ ((12 : Nat) : Int)) (.tail<|.tail<|.head) Z Z Fx.size3 Z (nb Z) Z<|?_
  have hb40 := rep_take2 hcb (hi := min cd.bytes.length 40) (by omega)
  rw [← List.map_take,take_min] at hb40
  refine .nt<|.fl (trip := [(_,_,_),(_,_,_),(_,_,_),(_,_,_),(_,_,_),(_,_,_),(_,_,_),(_,_,_),(_,_,_),(_,_,_),(_,_,_),(_,_,_),(_,_,_),(_,_,_)]) 14 [(0,0),(2,0),(5,0),(6,0),(7,0),(8,0),(10,0),(1,1),(3,0),(4,0),(9,1),(11,3),(12,0),(13,1)] (by kernel_rfl) (by kernel_rfl) Z<|.m Z Z<|.m Z Z<|.m Z Z<|.yv (.nilCheck Z) Z<|.yv (.fieldAddr Z Fx.field126_5) Z<|.yv (.load Z Fx.agg3 (.tail _<|.tail _<|.head _) Z) Z<|.m Z Z<|.ct (X := Value) Fx.call41 Z (fun W s => names_any H1 104 3 (by omega) W s.agr) Z fun v45 H45 hn45 u45 => ?_
  obtain ⟨pn45,cn45,e45,_⟩ := hn45.sl
  simp only [List.cons.injEq,and_true,List.length_map,namesB_len] at e45
  subst e45
  obtain ⟨bN,oN,hpN,mN⟩ := name_at hn45 (k := k) hk3
  subst hpN
  refine .yv (.indexSl Fx.sl66 Z Z (i := k) Z (by omega) (q := oN + k * 1) Z) Z<|.yv (.loadM Z Fx.agg9 mN (k := 0) Z Z) Z<|.ct (X := Value) Fx.call41 Z (fun W s => names_any H45 112 (arN M M.own k) (by omega) W s.agr) Z fun v53 H53 hn53 u53 => ?_
  obtain ⟨pn53,cn53,e53,_⟩ := hn53.sl
  simp only [List.cons.injEq,and_true,List.length_map,namesB_len] at e53
  subst e53
  refine .c3 (X := Value × Value × Hp) Fx.call79 Z (fun W s => bodyJ_any (M.at k) hokA 3 (by decide) H53 w0 W _ b _ _ 12 (cd.bytes.take 40) (by decide) (hAr.up (u1.trans (u45.trans u53)).up) (hb40.up (u45.trans u53).up)  (s.pickT (hd := [_,_,_]) (tl := bs) (hd' := [_,_,_]) [2,0,1] Z Z)) Z (fun z55 hz55 => (.yv (.loadM Z Fx.agg9 (mN.up (u53.up.trans hz55.1.up)) (k := 0) Z Z)<|.yv (.indexSl Fx.sl66 Z Z (i := k) Z (by omega) (q := oN + k * 1) Z)<|.done (by kernel_rfl)<|.done (by kernel_rfl)<|.done (by kernel_rfl)<|.done (by kernel_rfl)<|.done (by kernel_rfl)<|.yv (.move Z)<|.yv (.move Z)<|.nl)) fun z55 hz55 => ?_
  obtain ⟨x55,v55,H55⟩ := z55
  obtain ⟨u55,r55,q55,l55⟩ := hz55
  dsimp only at u55 r55 q55 ⊢
  obtain ⟨pb55,cb55,eb55,_⟩ := r55.sl
  simp only [List.cons.injEq,and_true,List.length_map] at eb55
  subst eb55
  exact .yv (.build Z (Fx.bld100_0_1_2 _ _ _ _ _ _ _)) Z<|.bl Z (Fx.bsl97_1 _ _ _) Z fun b57 => .fn (tl := [_,_]) Z<|.ap (news := [strV (nmB 104 k),.slice pn53 (arN M M.own k) cn53,.slice pb55 (bodE (M.at k) 3 (cd.bytes.take 40,12)).1.length cb55]) Fx.row97 Z (fun _ => (.tail<|.tail<|.tail<|.head)) Z (.box (.head _) z0) Z (by simp [Value.oneCell',strV]) (by simp [maxLen];omega) (by omega) Z fun r58 _ => .a Z Z<|.nl<|.bN<|.tN<|.rg<|.yv (.add Z Z (w6 (by omega))) Z<|.m Z Z<|.nt<|.ag (x := (k,pv,H1,r,xs,bv,left)) (k + 1,arN M M.own k,H55,r58,xs ++ [strV (nmB 104 k),.slice pn53 (arN M M.own k) cn53,.slice pb55 (bodE (M.at k) 3 (cd.bytes.take 40,12)).1.length cb55],v55,((bodE (M.at k) 3 (cd.bytes.take 40,12)).2.2 : Nat)) ⟨rfl,rfl,trivial⟩ ⟨rfl,rfl,rfl,trivial⟩ (fun _ s => (s.pickT (hd := [_,_,_,_]) (tl := bs) (hd' := [_,_]) [3,1] Z Z)) ⟨by dsimp only;omega,u1.trans (u45.trans (u53.trans u55)),by dsimp only;rw [hdsP_succ hk,hx,List.map_append];exact (hz.up ((u45.trans (u53.trans u55)).up)).snoc (hd_shut (x := hdS M k cd) (by simp [hdS,nmB]) (by simpa [hdS,namesB_len] using hn53.up u55.up) (by simpa [hdS] using r55)) Z⟩ (by dsimp only;omega)
 try simp only [df] at h11
 obtain rfl : k = l.length := by omega
 rw [List.take_length] at hz
 refine .ex<|.tE<|.tE<|.bE<|.tN<|.sr<|.m Z Z<|.a Z Z<|.nt<|.rt<|?_
 refine At.pt (hd := [_,_]) (tl := bs) (hd' := [_,_]) [0,1] rfl rfl ?_
 refine Sx.freezeSeq (ds := (hdsP M 0 l).map (dHd .i64)) (by simp [hdsP_len]) hz fun H3 p3 c3 u3 hr3 hs3 => ?_
 exact Sx.ret1 (.inl rfl) rfl (.tmp rfl) fun W t => ⟨(r,pv,H3,bv,left),⟨u1.trans u3,hs3⟩,rfl,t⟩
structure Prt where
 ints : UInt8
 tables : UInt8
 hs : List Cd
 sec : List Cd
structure Pln where
 flags : UInt8
 links : Bs
 comps : List Prt
def dPrt (x : Prt) : D := .str [.val (.int .u8 x.ints.toNat),.val (.int .u8 x.tables.toNat),.seq 2 (x.hs.map dCd),.seq 2 (x.sec.map dCd)]
def dPln (x : Pln) : D := .str [.val (.int .u8 x.flags.toNat),.seq 1 (x.links.map dU8),.seq 4 (x.comps.map dPrt)]
section
variable {H : Hp}
theorem prt_open {x : Prt} {cs : List Value} (h : Rep H (dPrt x) cs) : ∃ p1 c1 p2 c2,cs = [.int .u8 x.ints.toNat,.int .u8 x.tables.toNat,.slice p1 x.hs.length c1,.slice p2 x.sec.length c2] ∧ Rep H (.seq 2 (x.hs.map dCd)) [.slice p1 x.hs.length c1] ∧ Rep H (.seq 2 (x.sec.map dCd)) [.slice p2 x.sec.length c2] := by
 rw [dPrt,repS] at h
 obtain ⟨_,rfl,_,_,h⟩ := repL_val.1 h
 obtain ⟨_,rfl,_,_,h⟩ := repL_val.1 h
 obtain ⟨p1,c1,_,rfl,k1,h⟩ := repL_seq.1 h
 obtain ⟨p2,c2,_,rfl,k2,h⟩ := repL_seq.1 h
 rw [repL_nil] at h
 subst h
 exact ⟨p1,c1,p2,c2,by simp,(by simpa using k1),(by simpa using k2)⟩
theorem prt_shut {x : Prt} {s1 s2 : Value} (k1 : Rep H (.seq 2 (x.hs.map dCd)) [s1]) (k2 : Rep H (.seq 2 (x.sec.map dCd)) [s2]) : Rep H (dPrt x) [.int .u8 x.ints.toNat,.int .u8 x.tables.toNat,s1,s2] := by
 rw [dPrt,repS]
 exact repL_val.2 ⟨_,rfl,rfl,trivial,repL_val.2 ⟨_,rfl,rfl,trivial,repL_cons.2 ⟨[s1],_,rfl,k1,repL_cons.2 ⟨[s2],_,rfl,k2,repL_nil.2 rfl⟩⟩⟩⟩
theorem cd_shut {x : Cd} {s : Value} (k : Rep H (.seq 1 (x.bytes.map dU8)) [s]) : Rep H (dCd x) [.int .u8 x.ps.toNat,s] := by
 rw [dCd,repS]
 exact repL_val.2 ⟨_,rfl,rfl,trivial,repL_cons.2 ⟨[s],_,rfl,k,repL_nil.2 rfl⟩⟩
theorem pln_open {x : Pln} {cs : List Value} (h : Rep H (dPln x) cs) : ∃ p1 c1 p2 c2,cs = [.int .u8 x.flags.toNat,.slice p1 x.links.length c1,.slice p2 x.comps.length c2] ∧ Rep H (.seq 1 (x.links.map dU8)) [.slice p1 x.links.length c1] ∧ Rep H (.seq 4 (x.comps.map dPrt)) [.slice p2 x.comps.length c2] := by
 rw [dPln,repS] at h
 obtain ⟨_,rfl,_,_,h⟩ := repL_val.1 h
 obtain ⟨p1,c1,_,rfl,k1,h⟩ := repL_seq.1 h
 obtain ⟨p2,c2,_,rfl,k2,h⟩ := repL_seq.1 h
 rw [repL_nil] at h
 subst h
 exact ⟨p1,c1,p2,c2,by simp,(by simpa using k1),(by simpa using k2)⟩
end
def arK (x : Prt) (k : Nat) : List Nat :=
 if h : k < x.hs.length then [x.hs[k].ps.toNat % 3] else if k = 0 then [1] else if h : k < x.sec.length then [x.sec[k].ps.toNat % 3] else []
def arUp (x : Prt) (m : Nat) : List Nat := (List.range m).flatMap (arK x)
def arP (x : Prt) : List Nat := arUp x 3
theorem arUp_succ (x : Prt) (m : Nat) : arUp x (m + 1) = arUp x m ++ arK x m := by simp [arUp,List.range_succ]
theorem arK_le (x : Prt) (k : Nat) : (arK x k).length ≤ 1 := by
 unfold arK;split
 ·simp
 ·split
  ·simp
  ·split <;> simp
theorem arUp_len (x : Prt) : ∀ m,(arUp x m).length ≤ m
 | 0 => by simp [arUp]
 | m + 1 => by
  rw [arUp_succ,List.length_append]
  have := arUp_len x m
  have := arK_le x m
  omega
theorem arK_mem {x : Prt} {k n : Nat} (h : n ∈ arK x k) : n ≤ 2 := by
 unfold arK at h
 split at h
 ·simp at h;omega
 ·split at h
  ·simp at h;omega
  ·split at h
   ·simp at h;omega
   ·simp at h
theorem arP_mem {x : Prt} {n : Nat} (h : n ∈ arP x) : n ≤ 2 := by
 obtain ⟨k,_,hk⟩ := List.mem_flatMap.1 h
 exact arK_mem hk
theorem arP_len (x : Prt) : (arP x).length = max 1 (max (min x.hs.length 3) (min x.sec.length 3)) := by
 have e : arP x = arK x 0 ++ (arK x 1 ++ arK x 2) := by simp [arP,arUp,List.range_succ]
 have key : ∀ k,(arK x k).length = if k < x.hs.length ∨ k = 0 ∨ k < x.sec.length then 1 else 0 := by
  intro k
  unfold arK
  by_cases h1 : k < x.hs.length
  ·rw [dif_pos h1,if_pos (.inl h1)];rfl
  ·rw [dif_neg h1]
   by_cases h2 : k = 0
   ·rw [if_pos h2,if_pos (.inr (.inl h2))];rfl
   ·rw [if_neg h2]
    by_cases h3 : k < x.sec.length
    ·rw [dif_pos h3,if_pos (.inr (.inr h3))];rfl
    ·rw [dif_neg h3,if_neg (by omega)];rfl
 rw [e,List.length_append,List.length_append,key,key,key]
 rw [if_pos (.inr (.inl rfl))]
 split <;> split <;> omega
def prtsP (p : Pln) : List Prt := if p.comps.length = 0 then [⟨0,0,[],[]⟩] else p.comps.take 3
theorem prtsP_len (p : Pln) : 0 < (prtsP p).length ∧ (prtsP p).length ≤ 3 := by
 unfold prtsP
 split
 ·simp
 ·simp only [List.length_take];omega
def abcS (k : Nat) : Str := [UInt8.ofNat (97 + k)]
def flgP (c : UInt8) (k : Nat) : Fg := ⟨nmB 102 k,decide (((c.toNat / 2 ^ (4 + k) % 2 : Nat) : Int) = 1)⟩
def flgsP (c : UInt8) (n : Nat) : List Fg := (List.range n).map (flgP c)
theorem flgsP_succ (c : UInt8) (n : Nat) : flgsP c (n + 1) = flgsP c n ++ [flgP c n] := by simp [flgsP,List.range_succ]
theorem flgsP_len (c : UInt8) (n : Nat) : (flgsP c n).length = n := by simp [flgsP]
def lnkP (n : Nat) (l : Bs) (k : Nat) : List Lk := if 0 < (l.getD k 0).toNat % 4 then [⟨abcS (k / n),abcS (k % n),Int64.ofNat ((l.getD k 0).toNat % 4)⟩] else []
def lnksP (n : Nat) (l : Bs) (m : Nat) : List Lk := (List.range m).flatMap (lnkP n l)
theorem lnksP_succ (n : Nat) (l : Bs) (m : Nat) : lnksP n l (m + 1) = lnksP n l m ++ lnkP n l m := by simp [lnksP,List.range_succ]
theorem lnksP_len (n : Nat) (l : Bs) : ∀ m,(lnksP n l m).length ≤ m
 | 0 => by simp [lnksP]
 | m + 1 => by
  rw [lnksP_succ,List.length_append]
  have := lnksP_len n l m
  have : (lnkP n l m).length ≤ 1 := by unfold lnkP;split <;> simp
  omega
def intsP (x : Prt) : Nat := 1 + x.ints.toNat % 3
def tabsP (x : Prt) : Nat := x.tables.toNat % 2
def vrI (k : Nat) : Vr := ⟨nmB 120 k,1,Int64.ofNat k⟩
def vrT0 (k : Nat) : Vr := ⟨nmB 116 k,3,0⟩
def vrsI (n : Nat) : List Vr := (List.range n).map vrI
def vrsT (n : Nat) : List Vr := (List.range n).map vrT0
theorem vrsI_succ (n : Nat) : vrsI (n + 1) = vrsI n ++ [vrI n] := by simp [vrsI,List.range_succ]
theorem vrsT_succ (n : Nat) : vrsT (n + 1) = vrsT n ++ [vrT0 n] := by simp [vrsT,List.range_succ]
def vrB : Vr := ⟨[98,48],2,0⟩
def varsP (x : Prt) : List Vr := vrsI (intsP x) ++ [vrB] ++ vrsT (tabsP x)
theorem vrsI_len (n : Nat) : (vrsI n).length = n := by simp [vrsI]
theorem vrsT_len (n : Nat) : (vrsT n).length = n := by simp [vrsT]
def mkP (ars : List (List Nat)) (nf i : Nat) (x : Prt) : Mk := { ints := intsP x,tables := tabsP x,flags := nf,own := i,ars := ars,params := 0 }
def fstP (x : Prt) : List Cd := if x.hs.length = 0 then [⟨1,[]⟩] else x.hs.take 3
def vssP (M : Mk) (x : Prt) : List (List Hd) := hdsP M 0 (fstP x) :: (if 0 < x.sec.length then [hdsP M 0 (x.sec.take 3)] else [])
def cmpP (ars : List (List Nat)) (nf i : Nat) (x : Prt) : Cp := ⟨abcS i,varsP x,vssP (mkP ars nf i x) x⟩
def cmpsP (ars : List (List Nat)) (nf : Nat) (l : List Prt) : List Cp := l.mapIdx (fun i x => cmpP ars nf i x)
theorem cmpsP_succ {ars : List (List Nat)} {nf : Nat} {l : List Prt} {k : Nat} (h : k < l.length) : cmpsP ars nf (l.take (k + 1)) = cmpsP ars nf (l.take k) ++ [cmpP ars nf k l[k]] := by
 unfold cmpsP
 rw [take_snoc h,List.mapIdx_append]
 simp [Nat.min_eq_left (Nat.le_of_lt h)]
theorem cmpsP_len (ars : List (List Nat)) (nf : Nat) (l : List Prt) : (cmpsP ars nf l).length = l.length := by simp [cmpsP]
def fleetN : Str := [102,108,101,101,116,49]
def arsP (p : Pln) : List (List Nat) := (prtsP p).map arP
def buildF (p : Pln) : Ft :=
 ⟨fleetN,flgsP p.flags (p.flags.toNat % 3),lnksP (prtsP p).length p.links (min p.links.length ((prtsP p).length * (prtsP p).length)),cmpsP (arsP p) (p.flags.toNat % 3) (prtsP p)⟩
theorem nat_shut {H : Hp} (n : Nat) : Rep H (dNat n) [.int .i64 (n : Nat)] := repV rfl trivial
set_option maxRecDepth 100000 in
theorem arity_prt (H : Hp) (x : Prt) (cs : List Value) (w : World) (h : Rep H (dPrt x) cs) (hA : Agr H w) : Calls Tryz.prog 42 #[.agg cs.toArray] w fun r w' => ∃ (v : Value) (H' : Hp),Rep H' (.seq 1 ((arP x).map dNat)) [v] ∧ r = .returned v ∧ Grow H w H' w' := by
 obtain ⟨p1,c1,p2,c2,rfl,h1,h2⟩ := prt_open h
 have hcap1 := h1.cap
 have hcap2 := h2.cap
 refine Sx.enter (H := H) Tryz.func42 rfl Tryz.ntmps42 rfl hA ?_
 refine .sr<|.bx Z Z Z fun b1 => .a Z Z<|.ns<|.a Z Z<|?_
 refine Sx.row0 3 1 ?_
 refine .nt<|.sq<|.sr<|.a Z Z<|.nt<|.bk<|.lp (X := Nat × Nat × Value × List Value) [(1,_)] ⟨rfl,trivial⟩ [_] (fun z => [(3,z.2.2.1),(4,.int .i64 (z.1 : Nat))]) (fun z => H) (fun z => [.row 3 1 z.2.2.1 z.2.1 z.2.2.2]) (fun z => z.1 ≤ 3 ∧ z.2.1 = (arUp x z.1).length ∧ RepZ H 1 ((arUp x z.1).map dNat) z.2.2.2) (fun z => 3 - z.1) (0,0,.slice none 0 0,[]) (fun _ s => s) ⟨rfl,rfl,trivial⟩ ⟨by simp,rfl,RepZ.nil⟩ fun z hC => ?_
 obtain ⟨k,n,r,xs⟩ := z
 dsimp only at hC ⊢
 obtain ⟨hk0,hn,hz⟩ := hC
 have hn3 := arUp_len x k
 refine .sq<|.sr<|.m Z Z<|.yv (.lss Z Z) Z<|.nt<|.cd Z (fun h6 => ?_) (fun h6 => ?_)
 ·try simp only [dt] at h6
  have hk3 : k < 3 := by omega
  refine .sk<|.tN<|.sq<|.bk<|.bk<|.sr<|.m Z Z<|.yv (.fieldAddr Z Fx.field120_2) Z<|.yv (.load Z Fx.agg118 (.tail _<|.head _) Z) Z<|.yv (.lenSl Fx.sl118 Z) Z<|.yv (.lss Z Z) Z<|.a Z Z<|.nt<|.cd Z (fun h9 => ?_) (fun h9 => ?_)
  ·try simp only [dt] at h9
   have hk : k < x.hs.length := by omega
   obtain ⟨bE,oE,cE,hpE,rE,lE,mE⟩ := h1.elem (map_at (f := dCd) hk)
   cases hpE
   obtain ⟨pc,cc,rfl,_⟩ := cd_open rE
   exact .rg<|.m Z Z<|.yv (.fieldAddr Z Fx.field120_2) Z<|.yv (.load Z Fx.agg118 (.tail _<|.head _) Z) Z<|.m Z Z<|.yv (.indexSl Fx.sl118 Z Z Z (by omega) (q := oE + k * 2) Z) Z<|.yv (.fieldAddr Z Fx.field128_0) Z<|.yv (.loadM Z Fx.agg5 mE (k := 0) Z Z) Z<|.yv (.rem Z Z (by decide) (c := ((x.hs[k].ps.toNat % 3 : Nat) : Int)) (by rw [Int.tmod_eq_emod_of_nonneg (by omega)];omega)) Z<|.yv (.conv Z Fx.int5 Fx.int3 (c := ((x.hs[k].ps.toNat % 3 : Nat) : Int)) (w6 (by omega))) Z<|.bl Z (Fx.bsl123_1 _) Z fun b24 => .ap (news := [.int .i64 (x.hs[k].ps.toNat % 3 : Nat)]) Fx.row123 Z (fun _ => (.tail<|.head)) Z (.box (.head _) z0) Z (by simp [Value.oneCell']) (by simp [maxLen];omega) (by omega) Z fun r25 _ => .a Z Z<|.nl<|.bN<|.bN<|.tN<|.rg<|.m Z Z<|.yv (.add Z Z (w6 (by omega))) Z<|.a Z Z<|.nt<|.ag (x := (k,n,r,xs)) (k + 1,n + 1,r25,xs ++ [.int .i64 (x.hs[k].ps.toNat % 3 : Nat)]) ⟨rfl,rfl,trivial⟩ ⟨rfl,trivial⟩ (fun _ s => (s.pick [1,2] _ Z Z)) (by have hA1 : arK x k = [x.hs[k].ps.toNat % 3] := (by unfold arK;rw [dif_pos hk]);exact ⟨by dsimp only;omega,by dsimp only;rw [arUp_succ,hA1];simp [hn],by dsimp only;rw [arUp_succ,hA1,List.map_append];exact hz.snoc (nat_shut _) Z⟩) (by dsimp only;omega)
  try simp only [df] at h9
  have hna : ¬ k < x.hs.length := by omega
  refine .sr<|.m Z Z<|.yv (.eql Z Z) Z<|.a Z Z<|.nt<|.cd Z (fun h26 => ?_) (fun h26 => ?_)
  ·try simp only [dt] at h26
   have hb : k = 0 := by omega
   exact .rg<|.m Z Z<|.bl Z (Fx.bsl123_1 _) Z fun b30 => .ap (news := [.int .i64 (1 : Nat)]) Fx.row123 Z (fun _ => (.tail<|.head)) Z (.box (.head _) z0) Z (by simp [Value.oneCell']) (by simp [maxLen];omega) (by omega) Z fun r31 _ => .a Z Z<|.nl<|.bN<|.bN<|.tN<|.rg<|.m Z Z<|.yv (.add Z Z (w6 (by omega))) Z<|.a Z Z<|.nt<|.ag (x := (k,n,r,xs)) (k + 1,n + 1,r31,xs ++ [.int .i64 (1 : Nat)]) ⟨rfl,rfl,trivial⟩ ⟨rfl,trivial⟩ (fun _ s => (s.pick [1,2] _ Z Z)) (by have hA1 : arK x k = [1] := (by unfold arK;rw [dif_neg hna,if_pos hb]);exact ⟨by dsimp only;omega,by dsimp only;rw [arUp_succ,hA1];simp [hn],by dsimp only;rw [arUp_succ,hA1,List.map_append];exact hz.snoc (nat_shut _) Z⟩) (by dsimp only;omega)
  try simp only [df] at h26
  have hnb : ¬ k = 0 := by omega
  refine .sr<|.m Z Z<|.yv (.fieldAddr Z Fx.field120_3) Z<|.yv (.load Z Fx.agg118 (.tail _<|.head _) Z) Z<|.yv (.lenSl Fx.sl118 Z) Z<|.yv (.lss Z Z) Z<|.a Z Z<|.nt<|.cd Z (fun h32 => ?_) (fun h32 => ?_)
  ·try simp only [dt] at h32
   have hk : k < x.sec.length := by omega
   obtain ⟨bE,oE,cE,hpE,rE,lE,mE⟩ := h2.elem (map_at (f := dCd) hk)
   cases hpE
   obtain ⟨pc,cc,rfl,_⟩ := cd_open rE
   exact .rg<|.m Z Z<|.yv (.fieldAddr Z Fx.field120_3) Z<|.yv (.load Z Fx.agg118 (.tail _<|.head _) Z) Z<|.m Z Z<|.yv (.indexSl Fx.sl118 Z Z Z (by omega) (q := oE + k * 2) Z) Z<|.yv (.fieldAddr Z Fx.field128_0) Z<|.yv (.loadM Z Fx.agg5 mE (k := 0) Z Z) Z<|.yv (.rem Z Z (by decide) (c := ((x.sec[k].ps.toNat % 3 : Nat) : Int)) (by rw [Int.tmod_eq_emod_of_nonneg (by omega)];omega)) Z<|.yv (.conv Z Fx.int5 Fx.int3 (c := ((x.sec[k].ps.toNat % 3 : Nat) : Int)) (w6 (by omega))) Z<|.bl Z (Fx.bsl123_1 _) Z fun b47 => .ap (news := [.int .i64 (x.sec[k].ps.toNat % 3 : Nat)]) Fx.row123 Z (fun _ => (.tail<|.head)) Z (.box (.head _) z0) Z (by simp [Value.oneCell']) (by simp [maxLen];omega) (by omega) Z fun r48 _ => .a Z Z<|.nl<|.bN<|.bN<|.tN<|.rg<|.m Z Z<|.yv (.add Z Z (w6 (by omega))) Z<|.a Z Z<|.nt<|.ag (x := (k,n,r,xs)) (k + 1,n + 1,r48,xs ++ [.int .i64 (x.sec[k].ps.toNat % 3 : Nat)]) ⟨rfl,rfl,trivial⟩ ⟨rfl,trivial⟩ (fun _ s => (s.pick [1,2] _ Z Z)) (by have hA1 : arK x k = [x.sec[k].ps.toNat % 3] := (by unfold arK;rw [dif_neg hna,if_neg hnb,dif_pos hk]);exact ⟨by dsimp only;omega,by dsimp only;rw [arUp_succ,hA1];simp [hn],by dsimp only;rw [arUp_succ,hA1,List.map_append];exact hz.snoc (nat_shut _) Z⟩) (by dsimp only;omega)
  try simp only [df] at h32
  have hnc : ¬ k < x.sec.length := by omega
  exact .sk<|.bN<|.bN<|.tN<|.rg<|.m Z Z<|.yv (.add Z Z (w6 (by omega))) Z<|.a Z Z<|.nt<|.ag (x := (k,n,r,xs)) (k + 1,n,r,xs) ⟨rfl,rfl,trivial⟩ ⟨rfl,trivial⟩ (fun _ s => (s.pick [0,1] _ Z Z)) (by have hA1 : arK x k = [] := (by unfold arK;rw [dif_neg hna,if_neg hnb,dif_neg hnc]);exact ⟨by dsimp only;omega,by dsimp only;rw [arUp_succ,hA1,List.append_nil];exact hn,by dsimp only;rw [arUp_succ,hA1,List.append_nil];exact hz⟩) (by dsimp only;omega)
 try simp only [df] at h6
 obtain rfl : k = 3 := by omega
 refine .ex<|.tE<|.tE<|.bE<|.tN<|.sr<|.m Z Z<|.a Z Z<|.nt<|.rt<|?_
 refine At.pm [0] [_] rfl rfl ?_
 refine Sx.freezeSeq (ds := (arUp x 3).map dNat) (by simp [hn]) hz fun H3 p3 c3 u3 hr3 hs3 => ?_
 exact Sx.ret1 (.inl rfl) rfl (.tmp rfl) fun W t => ⟨r,H3,hs3,rfl,u3.grow t⟩
theorem fd2 (a m : Nat) : Int.fdiv (a : Int) (2 ^ m) = ((a / 2 ^ m : Nat) : Int) := by
 rw [Int.fdiv_eq_ediv_of_nonneg _ (Int.pow_nonneg (by decide))]
 rw [Int.natCast_ediv,Int.natCast_pow];rfl
theorem tm2 (a b : Nat) : Int.tmod (a : Int) (b : Int) = ((a % b : Nat) : Int) := by
 rw [Int.tmod_eq_emod_of_nonneg (Int.natCast_nonneg _)];rfl
theorem mulN {n : Nat} (h : n ≤ 3) : IntKind.i64.wrap ((n : Int) * n) = ((n * n : Nat) : Int) := by
 have key : ∀ i ∈ List.range 4,IntKind.i64.wrap ((i : Int) * i) = ((i * i : Nat) : Int) := by decide
 exact key n (List.mem_range.2 (by omega))
theorem quoN {a b : Nat} (h : a / b < 3) : IntKind.i64.wrap (Int.tdiv (a : Int) (b : Int)) = ((a / b : Nat) : Int) := by
 rw [Int.tdiv_eq_ediv_of_nonneg (Int.natCast_nonneg _),show (a : Int) / (b : Int) = ((a / b : Nat) : Int) from rfl]
 have h3 : ∀ n : Nat,n < 3 → IntKind.i64.wrap (n : Int) = (n : Int) := fun n hn => w64 (by omega) (by omega)
 exact h3 _ h
theorem take_min3 {α β : Type} {f : α → β} (l : List α) (n : Nat) : (l.map f).take (min l.length n) = (l.map f).take n := by
 have := take_min (l.map f) n
 rwa [List.length_map] at this
theorem vrI_shut {H : Hp} {j : Nat} (h : j < 10) : Rep H (dVr .i64 (vrI j)) [strV (nmB 120 j),.int .i64 1,.int .i64 (j : Nat)] := by
 have := vr_shut (H := H) (k := .i64) (x := vrI j) (by simp [vrI,nmB])
 have e : (Int64.ofNat j).toInt = (j : Int) := Int64.toInt_ofNat_of_lt (by omega)
 rw [show (vrI j).init.toInt = (j : Int) from e] at this
 exact this
theorem lk_shut4 {H : Hp} (a b : Nat) {n : Nat} (h : n < 4) : Rep H (dLk ⟨abcS a,abcS b,Int64.ofNat n⟩) [strV (abcS a),strV (abcS b),.int .i64 (n : Nat)] := by
 have := lk_shut (H := H) (x := ⟨abcS a,abcS b,Int64.ofNat n⟩) (by simp [abcS]) (by simp [abcS])
 have e : (Int64.ofNat n).toInt = (n : Int) := Int64.toInt_ofNat_of_lt (by omega)
 simp only [e] at this
 exact this
theorem lnkP_no {n k : Nat} {l : Bs} (hk : k < l.length) (h : ¬ 0 < l[k].toNat % 4) : lnkP n l k = [] := by unfold lnkP;rw [getD_at hk,if_neg h]
theorem lnkP_yes {n k : Nat} {l : Bs} (hk : k < l.length) (h : 0 < l[k].toNat % 4) : lnkP n l k = [⟨abcS (k / n),abcS (k % n),Int64.ofNat (l[k].toNat % 4)⟩] := by unfold lnkP;rw [getD_at hk,if_pos h]
theorem okB_mk {p : Pln} {k : Nat} {x : Prt} (hk : k < (prtsP p).length) (hf : p.flags.toNat % 3 ≤ 2) (hpos : 0 < (prtsP p).length ∧ (prtsP p).length ≤ 3) (hi : 0 < intsP x ∧ intsP x ≤ 3) : okB (mkP (arsP p) (p.flags.toNat % 3) k x) := by
 refine ⟨hi.1,hi.2,hf,by simpa [mkP,arsP] using hpos.1,by simpa [mkP,arsP] using hpos.2,by simpa [mkP,arsP] using hk,?_⟩
 intro l hl
 obtain ⟨y,_,rfl⟩ := List.mem_map.1 hl
 have := arP_len y
 exact ⟨by omega,by omega,fun n hn => arP_mem hn⟩
theorem fst_len {p : Pln} {k nf : Nat} {x : Prt} (hk : k < (prtsP p).length) (h : (arsP p).getD k [] = arP x) : (fstP x).length ≤ arL (mkP (arsP p) nf k x) (mkP (arsP p) nf k x).own := by
 show _ ≤ ((arsP p).getD k []).length
 rw [h,arP_len]
 unfold fstP
 split
 ·simp;omega
 ·rw [List.length_take];omega
theorem sec_len {p : Pln} {k nf : Nat} {x : Prt} (hk : k < (prtsP p).length) (h : (arsP p).getD k [] = arP x) : (x.sec.take 3).length ≤ arL (mkP (arsP p) nf k x) (mkP (arsP p) nf k x).own := by
 show _ ≤ ((arsP p).getD k []).length
 rw [h,arP_len,List.length_take];omega
theorem hdsP_pars (M : Mk) (n : Nat) : ∀ (l : List Cd) (k : Nat),hdsP { M with params := n } k l = hdsP M k l
 | [],_ => rfl
 | c :: r,k => by rw [hdsP,hdsP,hdsP_pars M n r (k + 1)];rfl
theorem hdsP_par {H : Hp} {M : Mk} {n : Nat} {l : List Cd} {v : Value} (h : Rep H (.seq 3 ((hdsP { M with params := n } 0 l).map (dHd .i64))) [v]) : Rep H (dVs .i64 (hdsP M 0 l)) [v] := by rwa [hdsP_pars] at h
set_option maxHeartbeats 8000000 in
set_option maxRecDepth 100000 in
theorem build_plan (H : Hp) (p : Pln) (cs : List Value) (w : World) (h : Rep H (dPln p) cs) (hA : Agr H w) : Calls Tryz.prog 14 #[.agg cs.toArray] w fun r w' => ∃ (v : List Value) (H' : Hp),Rep H' (dFt .i64 (buildF p)) v ∧ r = .returned (.agg v.toArray) ∧ Grow H w H' w' := by
 obtain ⟨p1,c1,p2,c2,rfl,h1,h2⟩ := pln_open h
 have hcap1 := h1.cap
 have hcap2 := h2.cap
 refine Sx.enter (H := H) Tryz.func14 rfl Tryz.ntmps14 rfl hA ?_
 refine .sr<|.bx Z Z Z fun b1 => .al Fx.zero32 Z fun b2 => .ns<|.yv (.fieldAddr Z Fx.field25_2) Z<|.yv (.load Z Fx.agg23 (.tail _<|.head _) Z) Z<|.yv (.lenSl Fx.sl23 Z) Z<|.yv (.call Fx.call40 Z (fun W s => least_any H p.comps.length 3 W s.agr)) Z<|.a Z Z<|.ns<|.yv (.fieldAddr Z Fx.field25_2) Z<|.yv (.load Z Fx.agg23 (.tail _<|.head _) Z) Z<|.m Z Z<|.yv (.cutHi2 Fx.sl23 Z Z (h := min p.comps.length 3) Z (by have := h2.len.2.1;omega)) Z<|.a Z Z<|.nt<|.cu (X := Nat × Hp × Value) [(1,_),(2,_)] ⟨rfl,rfl,trivial⟩ (fun z => [(3,.int .i64 (z.1 : Nat)),(4,z.2.2)]) (fun z => z.2.1) (fun z => [.box b1 [.int .u8 p.flags.toNat,.slice p1 p.links.length c1,.slice p2 p.comps.length c2] 25,.box b2 [.string ⟨#[]⟩,.slice none 0 0,.slice none 0 0,.slice none 0 0] 32]) (fun z => z.1 = (prtsP p).length ∧ HUp w H z.2.1 ∧ Rep z.2.1 (.seq 4 ((prtsP p).map dPrt)) [z.2.2]) ?_ fun z hC => ?_
 ·
  refine .sr<|.m Z Z<|.yv (.eql Z Z) Z<|.nt<|.cd Z (fun h31 => ?_) (fun h31 => ?_)
  ·try simp only [dt] at h31
   have h0 : p.comps.length = 0 := by omega
   refine .rg<|.yv (.build Z Fx.bld120) Z<|.bl Z (Fx.bsl23_1 _ _ _ _) Z fun b33 => ?_
   refine Sx.freezeBox fun H1 u1 m1 => ?_
   exact .a Z Z<|.a Z Z<|.nt<|.me (1,H1,_) ⟨rfl,rfl,trivial⟩ ⟨rfl,rfl,trivial⟩ (fun _ s => s.pick [1,0] [_,_] Z Z) ⟨by rw [prtsP,if_pos h0];rfl,u1,by rw [prtsP,if_pos h0];exact Rep.mk (n := 1) (c := 1) m1 (.single (prt_shut (x := ⟨0,0,[],[]⟩) (Rep.empty (by decide)) (Rep.empty (by decide))) Z) Z (Nat.le_refl _) (by decide)⟩
  try simp only [df] at h31
  have h0 : ¬ p.comps.length = 0 := by omega
  exact .sk<|.tN<|.me (min p.comps.length 3,H,_) ⟨rfl,rfl,trivial⟩ ⟨rfl,rfl,trivial⟩ (fun _ s => s.pick [1,0] [_,_] Z Z) ⟨by rw [prtsP,if_neg h0,List.length_take];exact Nat.min_comm _ _,.refl,by rw [prtsP,if_neg h0,List.map_take];have := rep_take2 h2 (hi := min p.comps.length 3) (by omega);rw [take_min3] at this;exact this⟩
 obtain ⟨N,H1,pv⟩ := z
 dsimp only at hC ⊢
 obtain ⟨hN,u1,hps⟩ := hC
 obtain ⟨pp,cp,e,_⟩ := hps.sl
 simp only [List.cons.injEq,and_true,List.length_map] at e
 subst e
 subst hN
 have hpos := prtsP_len p
 have hl1 := h1.up u1.up
 have hpcap := hps.cap
 have hf3 : p.flags.toNat % 3 ≤ 2 := by omega
 refine .sr<|.yv (.build Z (Fx.bld32_0 _)) Z<|.al Fx.zero32 Z fun b5 => .sW .head Z Z Fx.size32 (by simp [Value.oneCell',strV]) Z<|.nt<|.sq<|.sr<|.yv (.fieldAddr Z Fx.field25_0) Z<|.yv (.load Z Fx.agg5 (.tail _<|.head _) Z) Z<|.yv (.rem Z Z (by decide) (c := ((p.flags.toNat % 3 : Nat) : Int)) (by rw [Int.tmod_eq_emod_of_nonneg (by omega)];omega)) Z<|.yv (.conv Z Fx.int5 Fx.int3 (c := ((p.flags.toNat % 3 : Nat) : Int)) (w6 (by omega))) Z<|.ct (X := Value) Fx.call41 Z (fun W s => names_any H1 102 (p.flags.toNat % 3) (by omega) W s.agr) Z fun v39 H39 hn39 u39 => ?_
 obtain ⟨pn39,cn39,e39,_⟩ := hn39.sl
 simp only [List.cons.injEq,and_true,List.length_map,namesB_len] at e39
 subst e39
 refine .yv (.lenSl Fx.sl66 Z) Z<|.m Z Z<|?_
 refine Sx.row0 84 2 ?_
 refine .nt<|.bk<|.lp (X := Nat × Value × List Value) [(1,_),(2,_),(3,_),(4,_),(5,_),(39,_),(40,_)] ⟨rfl,rfl,rfl,rfl,rfl,rfl,rfl,trivial⟩ [_,_] (fun z => [(41,.int .i64 (z.1 : Nat))]) (fun z => H39) (fun z => [.row 84 2 z.2.1 z.1 z.2.2,.box b5 [strV fleetN,z.2.1,.slice none 0 0,.slice none 0 0] 32]) (fun z => z.1 ≤ (p.flags.toNat % 3) ∧ RepZ H39 2 ((flgsP p.flags z.1).map dFg) z.2.2) (fun z => (p.flags.toNat % 3) - z.1) (0,.slice none 0 0,[]) (fun _ s => s) ⟨rfl,trivial⟩ ⟨by simp,RepZ.nil⟩ fun z hC => ?_
 obtain ⟨k,r,xs⟩ := z
 dsimp only at hC ⊢
 obtain ⟨hk0,hz⟩ := hC
 refine .sr<|.yv (.lss Z Z) Z<|.nt<|.sq<|.cd Z (fun h42 => ?_) (fun h42 => ?_)
 ·try simp only [dt] at h42
  have hk : k < (p.flags.toNat % 3) := by omega
  obtain ⟨bE,oE,hpE,mE⟩ := name_at hn39 (k := k) hk
  subst hpE
  exact .sk<|.tN<|.sq<|.bk<|.sr<|.m Z Z<|.yv (.indexSl Fx.sl66 Z Z (i := k) Z (by omega) (q := oE + k * 1) Z) Z<|.yv (.loadM Z Fx.agg9 mE (k := 0) Z Z) Z<|.a Z Z<|.a Z Z<|.nt<|.fl (trip := [(_,_,_),(_,_,_),(_,_,_),(_,_,_),(_,_,_),(_,_,_),(_,_,_),(_,_,_),(_,_,_),(_,_,_),(_,_,_),(_,_,_)]) 12 [(0,0),(1,0),(2,0),(3,0),(4,0),(5,0),(6,0),(7,0),(8,0),(9,0),(10,0),(11,1)] (by kernel_rfl) (by kernel_rfl) Z<|.yv (.fieldAddr Z Fx.field32_1) Z<|.yv (.load Z Fx.agg28 (.tail _<|.head _) Z) Z<|.m Z Z<|.yv (.fieldAddr Z Fx.field25_0) Z<|.yv (.load Z Fx.agg5 (.tail _<|.tail _<|.head _) Z) Z<|.m Z Z<|.yv (.add Z Z (c := ((4 + k : Nat) : Int)) ((w6 (by omega)).trans (by omega))) Z<|.yv (.shr Z Z (m := 4 + k) Z (by show 4 + k ≤ 8;omega) (c := ((p.flags.toNat / 2 ^ (4 + k) : Nat) : Int)) (fd2 _ _)) Z<|.yv (.rem Z Z (by decide) (c := ((p.flags.toNat / 2 ^ (4 + k) % 2 : Nat) : Int)) (tm2 _ 2)) Z<|.yv (.eql Z Z) Z<|.yv (.build Z (Fx.bld84_0_1 _ _)) Z<|.bl Z (Fx.bsl28_1 _ _) Z fun b57 => .fn (tl := [_,_,_]) Z<|.ap (news := [strV (nmB 102 k),.bool (flgP p.flags k).init]) Fx.row28 Z (fun _ => (.tail<|.head)) Z (.box (.head _) z0) Z (by simp [Value.oneCell',strV,abcS]) (by simp [maxLen];omega) (by omega) Z fun r58 _ => .ra (.tail _<|.head _) fun p58 c58 e58 => .yv (.fieldAddr Z Fx.field32_1) Z<|.st (.tail<|.tail<|.head) Z Z Fx.size28 (by rw [e58];rfl) (nb Z) Z<|.nl<|.bN<|.tN<|.rg<|.yv (.add Z Z (w6 (by omega))) Z<|.m Z Z<|.nt<|.ag (x := (k,r,xs)) (k + 1,r58,xs ++ [strV (nmB 102 k),.bool (flgP p.flags k).init]) ⟨rfl,trivial⟩ ⟨rfl,rfl,rfl,rfl,rfl,rfl,rfl,trivial⟩ (fun _ s => (s.pick [1,2,3,4] _ Z Z)) ⟨by dsimp only;omega,by dsimp only;rw [flgsP_succ,List.map_append];exact hz.snoc (fg_shut (x := flgP p.flags k) (by simp [flgP,nmB])) Z⟩ (by dsimp only;omega)
 try simp only [df] at h42
 obtain rfl : k = (p.flags.toNat % 3) := by omega
 refine Sx.freezeSeq (ds := (flgsP p.flags (p.flags.toNat % 3)).map dFg) (by simp [flgsP_len]) hz fun H4 p4 c4 u4 e4 hfl => ?_
 subst e4
 refine .ex<|.tE<|.tE<|.bE<|.tN<|.sr<|.bl Z (Fx.bsl66_3 _ _ _) Z fun b61 => ?_
 refine Sx.freezeBox fun H5 u5 m5 => ?_
 refine .a Z Z<|.nt<|.sq<|.sr<|.a Z Z<|?_
 refine Sx.row0 86 3 ?_
 have hl5 := h1.up (u1.trans (u39.trans (u4.trans u5))).up
 obtain ⟨NN,hNN⟩ : ∃ NN,NN = (prtsP p).length * (prtsP p).length := ⟨_,rfl⟩
 have hN9 : NN ≤ 9 := by rw [hNN];exact Nat.mul_le_mul hpos.2 hpos.2
 refine .nt<|.bk<|.lp (X := Nat × Nat × Value × List Value) [(1,_),(2,_),(3,_),(4,_),(5,_),(8,_)] ⟨rfl,rfl,rfl,rfl,rfl,rfl,trivial⟩ [_,_] (fun z => [(9,.int .i64 (z.1 : Nat))]) (fun z => H5) (fun z => [.row 86 3 z.2.2.1 z.2.1 z.2.2.2,.box b5 [strV fleetN,.slice p4 (p.flags.toNat % 3) c4,z.2.2.1,.slice none 0 0] 32]) (fun z => z.1 ≤ p.links.length ∧ z.1 ≤ NN ∧ z.2.1 = (lnksP (prtsP p).length p.links z.1).length ∧ RepZ H5 3 ((lnksP (prtsP p).length p.links z.1).map dLk) z.2.2.2) (fun z => p.links.length - z.1) (0,0,.slice none 0 0,[]) (fun _ s => s) ⟨rfl,trivial⟩ ⟨by simp,by simp,rfl,RepZ.nil⟩ fun z hC => ?_
 obtain ⟨k,m,r,xs⟩ := z
 dsimp only at hC ⊢
 obtain ⟨hk0,hk1,hm,hz⟩ := hC
 have hmk := lnksP_len (prtsP p).length p.links k
 refine .sq<|.cu (X := Bool) [(1,_),(2,_),(3,_),(4,_),(5,_),(8,_),(9,_)] ⟨rfl,rfl,rfl,rfl,rfl,rfl,rfl,trivial⟩ (fun z => [(73,.bool z)]) (fun z => H5) (fun z => [.row 86 3 r m xs,.box b5 [strV fleetN,.slice p4 (p.flags.toNat % 3) c4,r,.slice none 0 0] 32,.box b2 [.string ⟨#[]⟩,.slice none 0 0,.slice none 0 0,.slice none 0 0] 32,.box b1 [.int .u8 p.flags.toNat,.slice p1 p.links.length c1,.slice p2 p.comps.length c2] 25]) (fun z => z = decide (k < p.links.length ∧ k < NN)) ?_ fun z hC => ?_
 ·
  refine .rg<|.m Z Z<|.yv (.fieldAddr Z Fx.field25_1) Z<|.yv (.load Z Fx.agg22 (.tail _<|.tail _<|.head _) Z) Z<|.yv (.lenSl Fx.sl22 Z) Z<|.yv (.lss Z Z) Z<|.m Z Z<|.b2 (fun h67 => ?_) (fun h67 => ?_)
  ·try simp only [dt] at h67
   exact .gd Z Z<|.yv (.move Z) Z<|.gd Z Z<|.yv (.move Z) Z<|.gd Z Z<|.yv (.move Z) Z<|.gd Z Z<|.yv (.mul Z Z (c := ((NN : Nat) : Int)) (by rw [hNN];exact mulN hpos.2)) Z<|.gd Z Z<|.yv (.lss Z Z) Z<|.yv (.pickT Z Z) Z<|.nt<|.me _ ⟨rfl,trivial⟩ ⟨rfl,rfl,rfl,rfl,rfl,rfl,rfl,trivial⟩ (fun _ s => s.pick [0,1,3,2] [_,_,_,_] Z Z) (by rw [Bool.eq_iff_iff,decide_eq_true_eq];first | (rw [decide_eq_true_eq];omega) | exact ⟨fun _ => by omega,fun _ => rfl⟩ | exact ⟨fun h => (by cases h),fun h => by omega⟩)
  try simp only [df] at h67
  exact .gF Z Z Z Z<|.gF Z Z Z Z<|.gF Z Z Z Z<|.gF Z Z Z Z<|.gF Z Z Z Z<|.yv (.pickF Z Z) Z<|.nt<|.me _ ⟨rfl,trivial⟩ ⟨rfl,rfl,rfl,rfl,rfl,rfl,rfl,trivial⟩ (fun _ s => s.pick [0,1,3,2] [_,_,_,_] Z Z) (by rw [Bool.eq_iff_iff,decide_eq_true_eq];first | (rw [decide_eq_true_eq];omega) | exact ⟨fun _ => by omega,fun _ => rfl⟩ | exact ⟨fun h => (by cases h),fun h => by omega⟩)
 have e73 := hC
 refine .cd Z (fun h73 => ?_) (fun h73 => ?_)
 ·have q73 : k < p.links.length ∧ k < NN := by rw [h73] at e73;exact of_decide_eq_true e73.symm
  obtain ⟨hkl,hkn⟩ := q73
  obtain ⟨bE,oE,cE,hpE,rE,lE,mE⟩ := hl5.elem (map_at (f := dU8) hkl)
  cases hpE
  obtain rfl := u8_open rE
  have hdv : k / (prtsP p).length < 3 := by rw [Nat.div_lt_iff_lt_mul hpos.1];calc k < NN := hkn
   _ = (prtsP p).length * (prtsP p).length := hNN
   _ ≤ 3 * (prtsP p).length := Nat.mul_le_mul_right _ hpos.2
  have hmd : k % (prtsP p).length < 3 := Nat.lt_of_lt_of_le (Nat.mod_lt _ hpos.1) hpos.2
  refine .sk<|.tN<|.sq<|.bk<|.sr<|.yv (.fieldAddr Z Fx.field25_1) Z<|.yv (.load Z Fx.agg22 (.tail _<|.tail _<|.tail _<|.head _) Z) Z<|.m Z Z<|.yv (.indexSl Fx.sl22 Z Z (i := k) Z (by omega) (q := oE + k * 1) Z) Z<|.yv (.loadM Z Fx.agg5 mE (k := 0) Z Z) Z<|.yv (.rem Z Z (by decide) (c := ((p.links[k].toNat % 4 : Nat) : Int)) (by rw [Int.tmod_eq_emod_of_nonneg (by omega)];omega)) Z<|.yv (.gtr Z Z) Z<|.nt<|.cd Z (fun h82 => ?_) (fun h82 => ?_)
  ·try simp only [dt] at h82
   have hq : 0 < p.links[k].toNat % 4 := by omega
   exact .fl (trip := [(_,_,_),(_,_,_),(_,_,_),(_,_,_),(_,_,_),(_,_,_),(_,_,_),(_,_,_),(_,_,_),(_,_,_),(_,_,_),(_,_,_),(_,_,_),(_,_,_),(_,_,_),(_,_,_),(_,_,_),(_,_,_),(_,_,_),(_,_,_),(_,_,_),(_,_,_),(_,_,_)]) 23 [(0,0),(1,0),(2,0),(3,0),(4,0),(5,0),(6,0),(7,0),(8,0),(9,0),(10,0),(11,0),(12,0),(13,0),(14,0),(15,0),(16,0),(17,0),(18,0),(19,0),(20,0),(21,0),(22,1)] (by kernel_rfl) (by kernel_rfl) Z<|.yv (.fieldAddr Z Fx.field32_2) Z<|.yv (.load Z Fx.agg29 (.tail _<|.head _) Z) Z<|.m Z Z<|.m Z Z<|.m Z Z<|.yv (.quo Z Z (by omega) (c := ((k / (prtsP p).length : Nat) : Int)) (quoN hdv)) Z<|.yv (.indexSl Fx.sl66 Z Z (i := k / (prtsP p).length) Z hdv (q := k / (prtsP p).length) (by omega)) Z<|.yv (.loadM Z Fx.agg9 m5 (k := k / (prtsP p).length) (by omega) (abc_at hdv)) Z<|.m Z Z<|.m Z Z<|.m Z Z<|.yv (.rem Z Z (by omega) (c := ((k % (prtsP p).length : Nat) : Int)) (tm2 _ _)) Z<|.yv (.indexSl Fx.sl66 Z Z (i := k % (prtsP p).length) Z hmd (q := k % (prtsP p).length) (by omega)) Z<|.yv (.loadM Z Fx.agg9 m5 (k := k % (prtsP p).length) (by omega) (abc_at hmd)) Z<|.yv (.fieldAddr Z Fx.field25_1) Z<|.yv (.load Z Fx.agg22 (.tail _<|.tail _<|.tail _<|.head _) Z) Z<|.m Z Z<|.yv (.indexSl Fx.sl22 Z Z (i := k) Z (by omega) (q := oE + k * 1) Z) Z<|.yv (.loadM Z Fx.agg5 mE (k := 0) Z Z) Z<|.yv (.rem Z Z (by decide) (c := ((p.links[k].toNat % 4 : Nat) : Int)) (by rw [Int.tmod_eq_emod_of_nonneg (by omega)];omega)) Z<|.yv (.conv Z Fx.int5 Fx.int3 (c := ((p.links[k].toNat % 4 : Nat) : Int)) (w6 (by omega))) Z<|.yv (.build Z (Fx.bld86_0_1_2 _ _ _)) Z<|.bl Z (Fx.bsl29_1 _ _ _) Z fun b105 => .fn (tl := [_,_,_]) Z<|.ap (news := [strV (abcS (k / (prtsP p).length)),strV (abcS (k % (prtsP p).length)),.int .i64 (p.links[k].toNat % 4 : Nat)]) Fx.row29 Z (fun _ => (.tail<|.head)) Z (.box (.head _) z0) Z (by simp [Value.oneCell',strV,abcS]) (by simp [maxLen];omega) (by omega) Z fun r106 _ => .ra (.tail _<|.head _) fun p106 c106 e106 => .yv (.fieldAddr Z Fx.field32_2) Z<|.st (.tail<|.tail<|.head) Z Z Fx.size29 (by rw [e106];rfl) (nb Z) Z<|.nl<|.bN<|.tN<|.rg<|.m Z Z<|.yv (.add Z Z (w6 (by omega))) Z<|.a Z Z<|.nt<|.ag (x := (k,m,r,xs)) (k + 1,m + 1,r106,xs ++ [strV (abcS (k / (prtsP p).length)),strV (abcS (k % (prtsP p).length)),.int .i64 (p.links[k].toNat % 4 : Nat)]) ⟨rfl,trivial⟩ ⟨rfl,rfl,rfl,rfl,rfl,rfl,trivial⟩ (fun _ s => (s.pick [1,2,4,3] _ Z Z)) (by have hL := lnkP_yes (n := (prtsP p).length) hkl hq;exact ⟨by dsimp only;omega,by dsimp only;omega,by dsimp only;rw [lnksP_succ,hL];simp [hm],by dsimp only;rw [lnksP_succ,hL,List.map_append];exact hz.snoc (lk_shut4 _ _ (by omega)) Z⟩) (by dsimp only;omega)
  try simp only [df] at h82
  have hq : ¬ 0 < p.links[k].toNat % 4 := by omega
  exact .sk<|.bN<|.tN<|.rg<|.m Z Z<|.yv (.add Z Z (w6 (by omega))) Z<|.a Z Z<|.nt<|.ag (x := (k,m,r,xs)) (k + 1,m,r,xs) ⟨rfl,trivial⟩ ⟨rfl,rfl,rfl,rfl,rfl,rfl,trivial⟩ (fun _ s => (s.pick [0,1,3,2] _ Z Z)) (by have hL := lnkP_no (n := (prtsP p).length) hkl hq;exact ⟨by dsimp only;omega,by dsimp only;omega,by dsimp only;rw [lnksP_succ,hL,List.append_nil];exact hm,by dsimp only;rw [lnksP_succ,hL,List.append_nil];exact hz⟩) (by dsimp only;omega)
 have q73 : ¬ (k < p.links.length ∧ k < NN) := by rw [h73] at e73;exact of_decide_eq_false e73.symm
 have hkm : k = min p.links.length ((prtsP p).length * (prtsP p).length) := by rw [← hNN];omega
 subst hkm
 subst hm
 refine Sx.freezeSeq (ds := (lnksP (prtsP p).length p.links (min p.links.length ((prtsP p).length * (prtsP p).length))).map dLk) (by simp) hz fun H6 p6 c6 u6 e6 hlk => ?_
 subst e6
 have hfl6 := hfl.up (u5.trans u6).up
 have hps6 := hps.up (u39.trans (u4.trans (u5.trans u6))).up
 have m56 := m5.up u6.up
 refine .ex<|.tE<|.tE<|.bE<|.tN<|.sr<|.a Z Z<|?_
 refine Sx.row0 123 1 ?_
 refine .nt<|.sq<|.sr<|.m Z Z<|.yv (.lenSl Fx.sl23 Z) Z<|.m Z Z<|.nt<|.bk<|.lp (X := Nat × Hp × Value × List Value) [(2,_),(4,_),(5,_),(8,_),(108,_),(109,_)] ⟨rfl,rfl,rfl,rfl,rfl,rfl,trivial⟩ [_,_,_] (fun z => [(10,z.2.2.1),(110,.int .i64 (z.1 : Nat))]) (fun z => z.2.1) (fun z => [.row 123 1 z.2.2.1 z.1 z.2.2.2]) (fun z => z.1 ≤ (prtsP p).length ∧ HUp w H6 z.2.1 ∧ RepZ z.2.1 1 ((((prtsP p).take z.1).map arP).map dAr) z.2.2.2) (fun z => (prtsP p).length - z.1) (0,H6,.slice none 0 0,[]) (fun _ s => s) ⟨rfl,rfl,trivial⟩ ⟨by simp,.refl,RepZ.nil⟩ fun z hC => ?_
 obtain ⟨k,H2,r,xs⟩ := z
 dsimp only at hC ⊢
 obtain ⟨hk0,u2,hz⟩ := hC
 refine .sr<|.yv (.lss Z Z) Z<|.nt<|.sq<|.cd Z (fun h111 => ?_) (fun h111 => ?_)
 ·try simp only [dt] at h111
  have hk : k < (prtsP p).length := by omega
  obtain ⟨bE,oE,cE,hpE,rE,lE,mE⟩ := (hps6.up u2.up).elem (map_at (f := dPrt) hk)
  cases hpE
  refine .sk<|.tN<|.sq<|.bk<|.sr<|.yv (.indexSl Fx.sl23 Z Z Z (by omega) (q := oE + k * 4) Z) Z<|.yv (.loadMW Z Fx.agg120 mE lE) Z<|.al Fx.zero120 Z fun b12 => .sV .head Z Z Fx.size120 lE rE.one Z<|.nt<|.rg<|.m Z Z<|.yv (.loadW Z Fx.agg120 (.head _) lE) Z<|.ct (X := Value) Fx.call42 Z (fun W s => arity_prt H2 _ cE W rE s.agr) Z fun v116 H116 hn116 u116 => ?_
  obtain ⟨pn116,cn116,e116,_⟩ := hn116.sl
  simp only [List.cons.injEq,and_true,List.length_map] at e116
  subst e116
  exact .bl Z (Fx.bsl122_1 _ _ _) Z fun b117 => .ap (news := [.slice pn116 (arP (prtsP p)[k]).length cn116]) Fx.row122 Z (fun _ => (.tail<|.tail<|.head)) Z (.box (.head _) z0) Z (by simp [Value.oneCell']) (by simp [maxLen];omega) (by omega) Z fun r118 _ => .a Z Z<|.nl<|.bN<|.tN<|.rg<|.yv (.add Z Z (w6 (by omega))) Z<|.m Z Z<|.nt<|.ag (x := (k,H2,r,xs)) (k + 1,H116,r118,xs ++ [.slice pn116 (arP (prtsP p)[k]).length cn116]) ⟨rfl,rfl,trivial⟩ ⟨rfl,rfl,rfl,rfl,rfl,rfl,trivial⟩ (fun _ s => (s.pick [2,3,4,5] _ Z Z)) ⟨by dsimp only;omega,u2.trans u116,by dsimp only;rw [take_snoc hk,List.map_append,List.map_append];exact (hz.up u116.up).snoc hn116 Z⟩ (by dsimp only;omega)
 try simp only [df] at h111
 obtain rfl : k = (prtsP p).length := by omega
 rw [List.take_length] at hz
 refine Sx.freezeSeq (ds := ((prtsP p).map arP).map dAr) (by simp) hz fun H7 p7 c7 u7 e7 har => ?_
 subst e7
 have u67 := u2.trans u7
 have hfl7 := hfl6.up u67.up
 have hlk7 := hlk.up u67.up
 have hps7 := hps6.up u67.up
 have m57 := m56.up u67.up
 refine .ex<|.tE<|.tE<|.bE<|.tN<|.sq<|.sr<|.m Z Z<|.yv (.lenSl Fx.sl23 Z) Z<|.m Z Z<|?_
 refine Sx.row0 91 3 ?_
 refine .nt<|.bk<|.lp (X := Nat × Hp × Value × List Value) [(2,_),(5,_),(8,_),(10,_),(120,_),(121,_)] ⟨rfl,rfl,rfl,rfl,rfl,rfl,trivial⟩ [_,_] (fun z => [(122,.int .i64 (z.1 : Nat))]) (fun z => z.2.1) (fun z => [.row 91 3 z.2.2.1 z.1 z.2.2.2,.box b5 [strV fleetN,.slice p4 (p.flags.toNat % 3) c4,.slice p6 (lnksP (prtsP p).length p.links (min p.links.length ((prtsP p).length * (prtsP p).length))).length c6,z.2.2.1] 32]) (fun z => z.1 ≤ (prtsP p).length ∧ HUp w H7 z.2.1 ∧ RepZ z.2.1 3 ((cmpsP (arsP p) (p.flags.toNat % 3) ((prtsP p).take z.1)).map (dCp .i64)) z.2.2.2) (fun z => (prtsP p).length - z.1) (0,H7,.slice none 0 0,[]) (fun _ s => s) ⟨rfl,trivial⟩ ⟨by simp,.refl,RepZ.nil⟩ fun z hC => ?_
 obtain ⟨k,H2,rc,xs⟩ := z
 dsimp only at hC ⊢
 obtain ⟨hk0,u2,hz⟩ := hC
 refine .sr<|.yv (.lss Z Z) Z<|.nt<|.sq<|.cd Z (fun h123 => ?_) (fun h123 => ?_)
 ·try simp only [dt] at h123
  have hk : k < (prtsP p).length := by omega
  obtain ⟨bE,oE,cE,hpE,rE,lE,mE⟩ := (hps7.up u2.up).elem (map_at (f := dPrt) hk)
  cases hpE
  have hpa : (arsP p).getD k [] = arP (prtsP p)[k] := by unfold arsP;simp [hk]
  generalize hx : (prtsP p)[k] = x at rE hpa
  obtain ⟨q1,d1,q2,d2,rfl,g1,g2⟩ := prt_open rE
  have hcap1 := g1.cap
  have hcap2 := g2.cap
  have hints : 0 < intsP x ∧ intsP x ≤ 3 := by unfold intsP;omega
  have htabs : tabsP x ≤ 1 := by unfold tabsP;omega
  have m52 := m57.up u2.up
  have k3 : k < 3 := by omega
  refine .sk<|.tN<|.sq<|.bk<|.sr<|.m Z Z<|.yv (.indexSl Fx.sl23 Z Z Z (by omega) (q := oE + k * 4) Z) Z<|.yv (.loadMW Z Fx.agg120 mE Z) Z<|.al Fx.zero120 Z fun b14 => .a Z Z<|.sW .head Z Z Fx.size120 (by simp [Value.oneCell',strV]) Z<|.ns<|.m Z Z<|.m Z Z<|.yv (.indexSl Fx.sl66 Z Z (i := k) Z k3 (q := k) (by omega)) Z<|.yv (.loadM Z Fx.agg9 m52 (k := k) (by omega) (abc_at k3)) Z<|.yv (.build Z (Fx.bld91_0 _)) Z<|.al Fx.zero91 Z fun b15 => .sW .head Z Z Fx.size91 (by simp [Value.oneCell',strV]) Z<|.nt<|.sq<|.sr<|.yv (.fieldAddr Z Fx.field120_0) Z<|.yv (.load Z Fx.agg5 (.tail _<|.head _) Z) Z<|.yv (.rem Z Z (by decide) (c := ((x.ints.toNat % 3 : Nat) : Int)) (by rw [Int.tmod_eq_emod_of_nonneg (by omega)];omega)) Z<|.yv (.conv Z Fx.int5 Fx.int3 (c := ((x.ints.toNat % 3 : Nat) : Int)) (w6 (by omega))) Z<|.yv (.add Z Z (c := ((intsP x : Nat) : Int)) ((w6 (by omega)).trans (by unfold intsP;omega))) Z<|.ct (X := Value) Fx.call41 Z (fun W s => names_any H2 120 (intsP x) (by omega) W s.agr) Z fun v137 H137 hn137 u137 => ?_
  obtain ⟨pn137,cn137,e137,_⟩ := hn137.sl
  simp only [List.cons.injEq,and_true,List.length_map,namesB_len] at e137
  subst e137
  refine .yv (.lenSl Fx.sl66 Z) Z<|.m Z Z<|?_
  refine Sx.row0 93 3 ?_
  refine .nt<|.bk<|.lp (X := Nat × Value × List Value) [(2,_),(5,_),(8,_),(10,_),(13,_),(14,_),(15,_),(120,_),(121,_),(122,_),(137,_),(138,_)] ⟨rfl,rfl,rfl,rfl,rfl,rfl,rfl,rfl,rfl,rfl,rfl,rfl,trivial⟩ [_,_,_,_,_] (fun z => [(139,.int .i64 (z.1 : Nat))]) (fun z => H137) (fun z => [.row 93 3 z.2.1 z.1 z.2.2,.box b15 [strV (abcS k),z.2.1,.slice none 0 0] 91]) (fun z => z.1 ≤ intsP x ∧ RepZ H137 3 ((vrsI z.1).map (dVr .i64)) z.2.2) (fun z => intsP x - z.1) (0,.slice none 0 0,[]) (fun _ s => s) ⟨rfl,trivial⟩ ⟨by simp,RepZ.nil⟩ fun z hC => ?_
  obtain ⟨j,rv,ys⟩ := z
  dsimp only at hC ⊢
  obtain ⟨hj0,hzv⟩ := hC
  refine .sr<|.yv (.lss Z Z) Z<|.nt<|.sq<|.cd Z (fun h140 => ?_) (fun h140 => ?_)
  ·try simp only [dt] at h140
   have hj : j < intsP x := by omega
   obtain ⟨bN,oN,hpN,mN⟩ := name_at hn137 (k := j) hj
   subst hpN
   exact .sk<|.tN<|.sq<|.bk<|.sr<|.m Z Z<|.yv (.indexSl Fx.sl66 Z Z (i := j) Z (by omega) (q := oN + j * 1) Z) Z<|.yv (.loadM Z Fx.agg9 mN (k := 0) Z Z) Z<|.a Z Z<|.a Z Z<|.nt<|.rg<|.yv (.fieldAddr Z Fx.field91_1) Z<|.yv (.load Z Fx.agg88 (.tail _<|.head _) Z) Z<|.m Z Z<|.m Z Z<|.yv (.build Z (Fx.bld93_0_1_2 _ _ _)) Z<|.bl Z (Fx.bsl88_1 _ _ _) Z fun b149 => .ap (news := [strV (nmB 120 j),.int .i64 1,.int .i64 (j : Nat)]) Fx.row88 Z (fun _ => (.tail<|.head)) Z (.box (.head _) z0) Z (by simp [Value.oneCell',strV,abcS]) (by simp [maxLen];omega) (by omega) Z fun r150 _ => .ra (.tail _<|.head _) fun p150 c150 e150 => .yv (.fieldAddr Z Fx.field91_1) Z<|.st (.tail<|.tail<|.head) Z Z Fx.size88 (by rw [e150];rfl) (nb Z) Z<|.nl<|.bN<|.tN<|.rg<|.yv (.add Z Z (w6 (by omega))) Z<|.m Z Z<|.nt<|.ag (x := (j,rv,ys)) (j + 1,r150,ys ++ [strV (nmB 120 j),.int .i64 1,.int .i64 (j : Nat)]) ⟨rfl,trivial⟩ ⟨rfl,rfl,rfl,rfl,rfl,rfl,rfl,rfl,rfl,rfl,rfl,rfl,trivial⟩ (fun _ s => (s.pick [1,2,3,4,5,6,7] _ Z Z)) ⟨by dsimp only;omega,by dsimp only;rw [vrsI_succ,List.map_append];exact hzv.snoc (vrI_shut (by omega)) Z⟩ (by dsimp only;omega)
  try simp only [df] at h140
  obtain rfl : j = intsP x := by omega
  refine .ex<|.tE<|.tE<|.bE<|.tN<|.sr<|.yv (.fieldAddr Z Fx.field91_1) Z<|.yv (.load Z Fx.agg88 (.tail _<|.head _) Z) Z<|.yv (.build Z (Fx.bld93_0_1_2 _ _ _)) Z<|.bl Z (Fx.bsl88_1 _ _ _) Z fun b156 => .ap (news := [strV [98,48],.int .i64 2,.int .i64 0]) Fx.row88 Z (fun _ => (.tail<|.head)) Z (.box (.head _) z0) Z (by simp [Value.oneCell',strV,abcS]) (by simp [maxLen];omega) (by omega) Z fun r157 _ => .ra (.tail _<|.head _) fun p157 c157 e157 => .yv (.fieldAddr Z Fx.field91_1) Z<|.st (.tail<|.tail<|.head) Z Z Fx.size88 (by rw [e157];rfl) (nb Z) Z<|.nt<|.sq<|.sr<|.yv (.fieldAddr Z Fx.field120_1) Z<|.yv (.load Z Fx.agg5 (.tail _<|.tail _<|.tail _<|.head _) Z) Z<|.yv (.rem Z Z (by decide) (c := ((x.tables.toNat % 2 : Nat) : Int)) (by rw [Int.tmod_eq_emod_of_nonneg (by omega)];omega)) Z<|.yv (.conv Z Fx.int5 Fx.int3 (c := ((tabsP x : Nat) : Int)) ((w6 (by omega)).trans (by unfold tabsP;omega))) Z<|.ct (X := Value) Fx.call41 Z (fun W s => names_any H137 116 (tabsP x) (by omega) W s.agr) Z fun v163 H163 hn163 u163 => ?_
  obtain ⟨pn163,cn163,e163,_⟩ := hn163.sl
  simp only [List.cons.injEq,and_true,List.length_map,namesB_len] at e163
  subst e163
  refine .yv (.lenSl Fx.sl66 Z) Z<|.m Z Z<|.nt<|.bk<|.pm [1,2,0,3,4,5,6,7] [_,_,_,_,_,_,_,_] Z Z<|.lp (X := Nat × Value × List Value) [(2,_),(5,_),(8,_),(10,_),(13,_),(14,_),(15,_),(120,_),(121,_),(122,_),(163,_),(164,_)] ⟨rfl,rfl,rfl,rfl,rfl,rfl,rfl,rfl,rfl,rfl,rfl,rfl,trivial⟩ [_,_,_,_,_,_] (fun z => [(165,.int .i64 (z.1 : Nat))]) (fun z => H163) (fun z => [.row 93 3 z.2.1 (intsP x + 1 + z.1) z.2.2,.box b15 [strV (abcS k),z.2.1,.slice none 0 0] 91]) (fun z => z.1 ≤ tabsP x ∧ RepZ H163 3 ((vrsI (intsP x) ++ [vrB] ++ vrsT z.1).map (dVr .i64)) z.2.2) (fun z => tabsP x - z.1) (0,r157,ys ++ [strV [98,48],.int .i64 2,.int .i64 0]) (fun _ s => s) ⟨rfl,trivial⟩ ⟨by simp,by dsimp only;rw [show vrsT 0 = [] from Z,List.append_nil,List.map_append];exact (hzv.up u163.up).snoc (vr_shut (x := vrB) (by decide)) Z⟩ fun z hC => ?_
  obtain ⟨i,rv2,zs⟩ := z
  dsimp only at hC ⊢
  obtain ⟨hi0,hzt⟩ := hC
  refine .sr<|.yv (.lss Z Z) Z<|.nt<|.sq<|.cd Z (fun h166 => ?_) (fun h166 => ?_)
  ·try simp only [dt] at h166
   have hi : i < tabsP x := by omega
   obtain ⟨bN,oN,hpN,mN⟩ := name_at hn163 (k := i) hi
   subst hpN
   exact .sk<|.tN<|.sq<|.bk<|.sr<|.yv (.indexSl Fx.sl66 Z Z (i := i) Z (by omega) (q := oN + i * 1) Z) Z<|.yv (.loadM Z Fx.agg9 mN (k := 0) Z Z) Z<|.a Z Z<|.nt<|.rg<|.yv (.fieldAddr Z Fx.field91_1) Z<|.yv (.load Z Fx.agg88 (.tail _<|.head _) Z) Z<|.m Z Z<|.yv (.build Z (Fx.bld93_0_1_2 _ _ _)) Z<|.bl Z (Fx.bsl88_1 _ _ _) Z fun b173 => .ap (news := [strV (nmB 116 i),.int .i64 3,.int .i64 0]) Fx.row88 Z (fun _ => (.tail<|.head)) Z (.box (.head _) z0) Z (by simp [Value.oneCell',strV,abcS]) (by simp [maxLen];omega) (by omega) Z fun r174 _ => .ra (.tail _<|.head _) fun p174 c174 e174 => .yv (.fieldAddr Z Fx.field91_1) Z<|.st (.tail<|.tail<|.head) Z Z Fx.size88 (by rw [e174];rfl) (nb Z) Z<|.nl<|.bN<|.tN<|.rg<|.yv (.add Z Z (w6 (by omega))) Z<|.m Z Z<|.nt<|.ag (x := (i,rv2,zs)) (i + 1,r174,zs ++ [strV (nmB 116 i),.int .i64 3,.int .i64 0]) ⟨rfl,trivial⟩ ⟨rfl,rfl,rfl,rfl,rfl,rfl,rfl,rfl,rfl,rfl,rfl,rfl,trivial⟩ (fun _ s => (s.pick [1,2,3,4,5,6,7,8] _ Z Z)) ⟨by dsimp only;omega,by dsimp only;rw [vrsT_succ,← List.append_assoc,List.map_append];exact hzt.snoc (vr_shut (x := vrT0 i) (by simp [vrT0,nmB])) Z⟩ (by dsimp only;omega)
  try simp only [df] at h166
  obtain rfl : i = tabsP x := by omega
  refine Sx.freezeSeq (ds := (varsP x).map (dVr .i64)) (by simp [varsP,vrsI_len,vrsT_len];omega) hzt fun H8 pV cV u8 e8 hV => ?_
  subst e8
  have uB := u137.trans (u163.trans u8)
  have g1b := g1.up uB.up
  have g2b := g2.up uB.up
  have harb := har.up (u2.trans uB).up
  refine .ex<|.tE<|.tE<|.bE<|.tN<|.sr<|.yv (.fieldAddr Z Fx.field120_0) Z<|.yv (.load Z Fx.agg5 (.tail _<|.tail _<|.head _) Z) Z<|.yv (.rem Z Z (by decide) (c := ((x.ints.toNat % 3 : Nat) : Int)) (by rw [Int.tmod_eq_emod_of_nonneg (by omega)];omega)) Z<|.yv (.conv Z Fx.int5 Fx.int3 (c := ((x.ints.toNat % 3 : Nat) : Int)) (w6 (by omega))) Z<|.yv (.add Z Z (c := ((intsP x : Nat) : Int)) ((w6 (by omega)).trans (by unfold intsP;omega))) Z<|.yv (.fieldAddr Z Fx.field120_1) Z<|.yv (.load Z Fx.agg5 (.tail _<|.tail _<|.head _) Z) Z<|.yv (.rem Z Z (by decide) (c := ((x.tables.toNat % 2 : Nat) : Int)) (by rw [Int.tmod_eq_emod_of_nonneg (by omega)];omega)) Z<|.yv (.conv Z Fx.int5 Fx.int3 (c := ((tabsP x : Nat) : Int)) ((w6 (by omega)).trans (by unfold tabsP;omega))) Z<|.yv (.fieldAddr Z Fx.field32_1) Z<|.yv (.load Z Fx.agg28 (.tail _<|.tail _<|.tail _<|.tail _<|.head _) Z) Z<|.yv (.lenSl Fx.sl28 Z) Z<|.m Z Z<|.m Z Z<|.yv (.build Z (Fx.bld126_0_1_2_3_4 _ _ _ _ _ _ _)) Z<|.al Fx.zero126 Z fun b20 => .sW .head Z Z Fx.size126 (by simp [Value.oneCell',strV]) Z<|.nt<|.sq<|.fl (trip := [(_,_,_),(_,_,_),(_,_,_),(_,_,_),(_,_,_),(_,_,_),(_,_,_)]) 7 [(0,0),(1,0),(2,0),(3,0),(4,0),(5,0),(6,0)] (by kernel_rfl) (by kernel_rfl) Z<|.yv (.fieldAddr Z Fx.field120_2) Z<|.yv (.load Z Fx.agg118 (.tail _<|.tail _<|.tail _<|.head _) Z) Z<|.yv (.fieldAddr Z Fx.field120_2) Z<|.yv (.load Z Fx.agg118 (.tail _<|.tail _<|.tail _<|.head _) Z) Z<|.yv (.lenSl Fx.sl118 Z) Z<|.yv (.call Fx.call40 Z (fun W s => least_any H8 x.hs.length 3 W s.agr)) Z<|.yv (.cutHi2 Fx.sl118 Z Z (h := min x.hs.length 3) Z (by have := g1b.len.2.1;omega)) Z<|.fn (tl := [_]) Z<|.a Z Z<|.nt<|.cu (X := Hp × Value) [(2,_),(5,_),(8,_),(10,_),(14,_),(15,_),(20,_),(120,_),(121,_),(122,_)] ⟨rfl,rfl,rfl,rfl,rfl,rfl,rfl,rfl,rfl,rfl,trivial⟩ (fun z => [(21,z.2)]) (fun z => z.1) (fun z => [.box b20 (mkC (mkP (arsP p) (p.flags.toNat % 3) k x) (.slice p7 (prtsP p).length c7) (.slice none 0 0) 0) 126,.box b15 [strV (abcS k),.slice pV (intsP x + 1 + tabsP x) cV,.slice none 0 0] 91,.box b14 [.int .u8 x.ints.toNat,.int .u8 x.tables.toNat,.slice q1 x.hs.length d1,.slice q2 x.sec.length d2] 120,.row 91 3 rc k xs,.box b5 [strV fleetN,.slice p4 (p.flags.toNat % 3) c4,.slice p6 (lnksP (prtsP p).length p.links (min p.links.length ((prtsP p).length * (prtsP p).length))).length c6,rc] 32,.box b2 [.string ⟨#[]⟩,.slice none 0 0,.slice none 0 0,.slice none 0 0] 32,.box b1 [.int .u8 p.flags.toNat,.slice p1 p.links.length c1,.slice p2 p.comps.length c2] 25]) (fun z => HUp w H8 z.1 ∧ Rep z.1 (.seq 2 ((fstP x).map dCd)) [z.2]) ?_ fun z hC => ?_
  ·
   refine .sr<|.m Z Z<|.yv (.lenSl Fx.sl118 Z) Z<|.yv (.eql Z Z) Z<|.nt<|.cd Z (fun h201 => ?_) (fun h201 => ?_)
   ·try simp only [dt] at h201
    have h0 : x.hs.length = 0 := by omega
    refine .rg<|.yv (.build Z (Fx.bld128_0 _)) Z<|.bl Z (Fx.bsl118_1 _ _) Z fun b203 => ?_
    refine Sx.freezeBox fun H9 u9 m9 => ?_
    exact .a Z Z<|.nt<|.me (H9,_) ⟨rfl,trivial⟩ ⟨rfl,rfl,rfl,rfl,rfl,rfl,rfl,rfl,rfl,rfl,trivial⟩ (fun _ s => s.pick [0,1,3,4,5,6,7] [_,_,_,_,_,_,_] Z Z) ⟨u9,by rw [fstP,if_pos h0];exact Rep.mk (n := 1) (c := 1) m9 (.single (cd_shut (x := ⟨1,[]⟩) (Rep.empty (by decide))) Z) Z (Nat.le_refl _) (by decide)⟩
   try simp only [df] at h201
   have h0 : ¬ x.hs.length = 0 := by omega
   exact .sk<|.tN<|.me (H8,_) ⟨rfl,trivial⟩ ⟨rfl,rfl,rfl,rfl,rfl,rfl,rfl,rfl,rfl,rfl,trivial⟩ (fun _ s => s.pick [0,1,3,4,5,6,7] [_,_,_,_,_,_,_] Z Z) ⟨.refl,by rw [fstP,if_neg h0,List.map_take];have := rep_take2 g1b (hi := min x.hs.length 3) (by omega);rwa [take_min3] at this⟩
  obtain ⟨H9,fv⟩ := z
  dsimp only at hC ⊢
  obtain ⟨u9,hfs⟩ := hC
  have hoB : okB (mkP (arsP p) (p.flags.toNat % 3) k x) := okB_mk hk hf3 hpos hints
  have hfl3 := fst_len (nf := p.flags.toNat % 3) hk hpa
  have hsl3 := sec_len (nf := p.flags.toNat % 3) hk hpa
  have g2c := g2b.up u9.up
  refine Sx.row0 97 1 ?_
  refine .sq<|.fl (trip := [(_,_,_),(_,_,_),(_,_,_),(_,_,_),(_,_,_)]) 5 [(0,0),(1,0),(2,0),(3,3),(4,1)] (by kernel_rfl) (by kernel_rfl) Z<|.yv (.fieldAddr Z Fx.field91_2) Z<|.yv (.load Z Fx.agg89 (.tail _<|.tail _<|.head _) Z) Z<|.m Z Z<|.c3 (X := Value × Nat × Hp × Value × Int) Fx.call43 Z (fun W s => handlers_st (mkP (arsP p) (p.flags.toNat % 3) k x) hoB (fstP x) hfl3 H9 w W _ b20 _ _ _ _  hfs (by simpa [mkP,arsP] using harb.up u9.up) (s.pick [1,0,2,3,4,5,6,7] [_,_,_,_,_,_,_,_] Z Z)) Z (fun z207 hz207 => (.done (by kernel_rfl)<|.yv (.load Z Fx.agg89 (.tail _<|.tail _<|.head _) Z)<|.yv (.fieldAddr Z Fx.field91_2)<|.nl)) fun z207 hz207 => ?_
  obtain ⟨v207,pv207,H207,bv207,lf207⟩ := z207
  obtain ⟨u207,rr207⟩ := hz207
  dsimp only at u207 rr207 ⊢
  obtain ⟨pn207,cn207,e207,_⟩ := rr207.sl
  simp only [List.cons.injEq,and_true,List.length_map,hdsP_len] at e207
  subst e207
  refine .bl Z (Fx.bsl89_1 _ _ _) Z fun b208 => .fn (tl := [_,_,_]) Z<|.ap (news := [.slice pn207 (fstP x).length cn207]) Fx.row89 Z (fun _ => (.tail<|.tail<|.head)) Z (.box (.head _) z0) Z (by simp [Value.oneCell']) (by simp [maxLen]) (by omega) Z fun r209 _ => .ra (.tail _<|.tail _<|.head _) fun p209 c209 e209 => .yv (.fieldAddr Z Fx.field91_2) Z<|.st (.tail<|.tail<|.tail<|.head) Z Z Fx.size89 (by rw [e209];rfl) (nb Z) Z<|.nt<|.cu (X := Hp × Value × List Value) [(2,_),(5,_),(8,_),(10,_),(15,_),(120,_),(121,_),(122,_)] ⟨rfl,rfl,rfl,rfl,rfl,rfl,rfl,rfl,trivial⟩ (fun z => []) (fun z => z.1) (fun z => [.row 97 1 z.2.1 (vssP (mkP (arsP p) (p.flags.toNat % 3) k x) x).length z.2.2,.box b15 [strV (abcS k),.slice pV (intsP x + 1 + tabsP x) cV,z.2.1] 91,.row 91 3 rc k xs,.box b5 [strV fleetN,.slice p4 (p.flags.toNat % 3) c4,.slice p6 (lnksP (prtsP p).length p.links (min p.links.length ((prtsP p).length * (prtsP p).length))).length c6,rc] 32,.box b2 [.string ⟨#[]⟩,.slice none 0 0,.slice none 0 0,.slice none 0 0] 32,.box b1 [.int .u8 p.flags.toNat,.slice p1 p.links.length c1,.slice p2 p.comps.length c2] 25]) (fun z => HUp w H9 z.1 ∧ RepZ z.1 1 ((vssP (mkP (arsP p) (p.flags.toNat % 3) k x) x).map (dVs .i64)) z.2.2) ?_ fun z hC => ?_
  ·
   refine .sr<|.yv (.fieldAddr Z Fx.field120_3) Z<|.yv (.load Z Fx.agg118 (.tail _<|.tail _<|.tail _<|.tail _<|.head _) Z) Z<|.yv (.lenSl Fx.sl118 Z) Z<|.yv (.gtr Z Z) Z<|.nt<|.cd Z (fun h214 => ?_) (fun h214 => ?_)
   ·try simp only [dt] at h214
    have hsc : 0 < x.sec.length := by omega
    refine .fl (trip := [(_,_,_),(_,_,_),(_,_,_),(_,_,_),(_,_,_),(_,_,_),(_,_,_),(_,_,_),(_,_,_),(_,_,_),(_,_,_)]) 11 [(0,0),(1,0),(2,0),(3,0),(4,0),(5,0),(6,0),(7,0),(8,0),(9,3),(10,1)] (by kernel_rfl) (by kernel_rfl) Z<|.yv (.fieldAddr Z Fx.field91_2) Z<|.yv (.load Z Fx.agg89 (.tail _<|.tail _<|.tail _<|.head _) Z) Z<|.yv (.fieldAddr Z Fx.field120_3) Z<|.yv (.load Z Fx.agg118 (.tail _<|.tail _<|.tail _<|.tail _<|.head _) Z) Z<|.yv (.fieldAddr Z Fx.field120_3) Z<|.yv (.load Z Fx.agg118 (.tail _<|.tail _<|.tail _<|.tail _<|.head _) Z) Z<|.yv (.lenSl Fx.sl118 Z) Z<|.yv (.call Fx.call40 Z (fun W s => least_any H207 x.sec.length 3 W s.agr)) Z<|.yv (.cutHi2 Fx.sl118 Z Z (h := min x.sec.length 3) Z (by have := g2c.len.2.1;omega)) Z<|.c3 (X := Value × Nat × Hp × Value × Int) Fx.call43 Z (fun W s => handlers_st { (mkP (arsP p) (p.flags.toNat % 3) k x) with params := pv207 } hoB (x.sec.take 3) hsl3 H207 w W _ b20 _ _ _ _  (by have := rep_take2 (g2c.up u207.up) (hi := min x.sec.length 3) (by omega);rw [take_min3,← List.map_take] at this;exact this) (by simpa [mkP,arsP] using harb.up (u9.trans u207).up) (s.pick [1,0,2,3,4,5,6,7,8] [_,_,_,_,_,_,_,_,_] Z Z)) Z (fun z224 hz224 => (.done (by kernel_rfl)<|.done (by kernel_rfl)<|.done (by kernel_rfl)<|.done (by kernel_rfl)<|.done (by kernel_rfl)<|.done (by kernel_rfl)<|.done (by kernel_rfl)<|.yv (.load Z Fx.agg89 (.tail _<|.tail _<|.tail _<|.head _) Z)<|.yv (.fieldAddr Z Fx.field91_2)<|.nl)) fun z224 hz224 => ?_
    obtain ⟨v224,pv224,H224,bv224,lf224⟩ := z224
    obtain ⟨u224,rr224⟩ := hz224
    dsimp only at u224 rr224 ⊢
    obtain ⟨pn224,cn224,e224,_⟩ := rr224.sl
    simp only [List.cons.injEq,and_true,List.length_map,hdsP_len] at e224
    subst e224
    exact .bl Z (Fx.bsl89_1 _ _ _) Z fun b225 => .fn (tl := [_,_,_]) Z<|.ap (news := [.slice pn224 (x.sec.take 3).length cn224]) Fx.row89 Z (fun _ => (.tail<|.tail<|.tail<|.head)) Z (.box (.head _) z0) Z (by simp [Value.oneCell']) (by simp [maxLen]) (by omega) Z fun r226 _ => .ra (.tail _<|.tail _<|.tail _<|.head _) fun p226 c226 e226 => .yv (.fieldAddr Z Fx.field91_2) Z<|.st (.tail<|.tail<|.tail<|.tail<|.head) Z Z Fx.size89 (by rw [e226];rfl) (nb Z) Z<|.nt<|.me (H224,r226,_) trivial ⟨rfl,rfl,rfl,rfl,rfl,rfl,rfl,rfl,trivial⟩ (fun _ s => by rw [show (vssP (mkP (arsP p) (p.flags.toNat % 3) k x) x).length = 0 + 1 + 1 by rw [vssP,if_pos hsc];rfl];exact (s.pick [3,4,6,7,8,9] _ Z Z)) ⟨u207.trans u224,by rw [vssP,if_pos hsc];exact RepZ.app (.single (rr207.up u224.up) Z) (.single (hdsP_par rr224) Z)⟩
   try simp only [df] at h214
   have hsc : ¬ 0 < x.sec.length := by omega
   exact .sk<|.tN<|.me (H207,r209,_) trivial ⟨rfl,rfl,rfl,rfl,rfl,rfl,rfl,rfl,trivial⟩ (fun _ s => by rw [show (vssP (mkP (arsP p) (p.flags.toNat % 3) k x) x).length = 0 + 1 by rw [vssP,if_neg hsc];rfl];exact (s.pick [2,3,5,6,7,8] _ Z Z)) ⟨u207,by rw [vssP,if_neg hsc];exact .single rr207 Z⟩
  obtain ⟨H10,rs,ws⟩ := z
  dsimp only at hC ⊢
  obtain ⟨u10,hzs⟩ := hC
  refine Sx.freezeSeq (ds := (vssP (mkP (arsP p) (p.flags.toNat % 3) k x) x).map (dVs .i64)) (by simp) hzs fun HE pS cS u11 e11 hSE => ?_
  subst e11
  have uE := uB.trans (u9.trans (u10.trans u11))
  have hVE := hV.up (u9.trans (u10.trans u11)).up
  exact .rg<|.yv (.fieldAddr Z Fx.field32_3) Z<|.yv (.load Z Fx.agg30 (.tail _<|.tail _<|.head _) Z) Z<|.yv (.loadW Z Fx.agg91 (.head _) Z) Z<|.bl Z (Fx.bsl30_1 _ _ _) Z fun b231 => .ap (news := [strV (abcS k),.slice pV (intsP x + 1 + tabsP x) cV,.slice pS (vssP (mkP (arsP p) (p.flags.toNat % 3) k x) x).length cS]) Fx.row30 Z (fun _ => (.tail<|.tail<|.head)) Z (.box (.head _) z0) Z (by simp [Value.oneCell',strV,abcS]) (by simp [maxLen];omega) (by omega) Z fun r232 _ => .ra (.tail _<|.tail _<|.head _) fun p232 c232 e232 => .yv (.fieldAddr Z Fx.field32_3) Z<|.st (.tail<|.tail<|.tail<|.head) Z Z Fx.size30 (by rw [e232];rfl) (nb Z) Z<|.nl<|.bN<|.tN<|.rg<|.yv (.add Z Z (w6 (by omega))) Z<|.m Z Z<|.nt<|.ag (x := (k,H2,rc,xs)) (k + 1,HE,r232,xs ++ [strV (abcS k),.slice pV (intsP x + 1 + tabsP x) cV,.slice pS (vssP (mkP (arsP p) (p.flags.toNat % 3) k x) x).length cS]) ⟨rfl,trivial⟩ ⟨rfl,rfl,rfl,rfl,rfl,rfl,trivial⟩ (fun _ s => (s.pick [2,3,4,5] _ Z Z)) ⟨by dsimp only;omega,u2.trans uE,by dsimp only;rw [cmpsP_succ hk,hx,List.map_append];exact (hz.up uE.up).snoc (cp_shut (x := cmpP (arsP p) (p.flags.toNat % 3) k x) (by simp [cmpP,abcS]) hVE hSE) Z⟩ (by dsimp only;omega)
 try simp only [df] at h123
 obtain rfl : k = (prtsP p).length := by omega
 rw [List.take_length] at hz
 refine Sx.freezeSeq (ds := (cmpsP (arsP p) (p.flags.toNat % 3) (prtsP p)).map (dCp .i64)) (by simp [cmpsP_len]) hz fun HF pc cc uF eF hcs => ?_
 subst eF
 have uZ := u2.trans uF
 refine .ex<|.tE<|.tE<|.bE<|.tN<|.sr<|.yv (.loadW Z Fx.agg32 (.head _) Z) Z<|.sW (.tail<|.head) Z Z Fx.size32 (by simp [Value.oneCell',strV]) Z<|.nt<|.rt<|?_
 exact Sx.ret1 (.inl rfl) rfl (.cell rfl Fx.agg32 (.tail _<|.head _) rfl) fun W t => ⟨_,HF,ft_shut (x := buildF p) (show fleetN.length ≤ 1000000 by decide) (hfl7.up uZ.up) (hlk7.up uZ.up) hcs,rfl,((((u1.trans (u39.trans (u4.trans (u5.trans u6)))).trans u67).trans uZ).grow t)⟩
end Go.Proofs.YtmbiojpcidccjaaGreatDoor
