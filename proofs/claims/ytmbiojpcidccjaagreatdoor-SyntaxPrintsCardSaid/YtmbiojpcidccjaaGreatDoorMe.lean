/- Texts of the proof, one behind the other. -/
import Derived.Test.YtmbiojpcidccjaaGreatDoorMd
set_option linter.all false
namespace Go.Proofs.YtmbiojpcidccjaaGreatDoor
open Go.RowKit Go.Par Go.Sx
theorem set_fill {A : List Str} {n k : Nat} (hn : A.length = n) (hk : k < n) (v : Value) (hv : v = strV A[k]) : ((A.take k).map strV ++ List.replicate (n - k) (strV [])).set k v = (A.take (k + 1)).map strV ++ List.replicate (n - (k + 1)) (strV []) := by
 have e1 : ((A.take k).map strV).length = k := by rw [List.length_map,List.length_take];omega
 rw [List.set_append_right _ _ (by rw [e1];exact Nat.le_refl _),e1,Nat.sub_self]
 obtain ⟨m,hm⟩ : ∃ m,n - k = m + 1 := ⟨n - k - 1,by omega⟩
 rw [hm,List.replicate_succ,List.set_cons_zero,take_snoc (by omega),List.map_append,show n - (k + 1) = m by omega,hv]
 simp
theorem fill_all (A : List Str) (n : Nat) (hn : A.length = n) : (A.take n).map strV ++ List.replicate (n - n) (strV []) = A.map strV := by
 rw [← hn,List.take_length,Nat.sub_self,List.replicate_zero,List.append_nil]
theorem diskT_len (n : Nat) (first : Str) (q : Bool) (E : Str) : first.length ≤ (diskT n first q E).length ∧ 2 * n ≤ (diskT n first q E).length := by
 unfold diskT
 have h1 := lineT_len n [first,[59]]
 have h2 := lineT_len n [first,[32,101,108,115,101,32,123]]
 simp only [List.flatten_cons,List.length_append] at h1 h2
 split <;> (try simp only [List.length_append]) <;> omega
theorem frm_len {kd : UInt8} {nm hd : Str} {ex : List Ex} {th el : List Sm} (h : frmS (.mk kd nm hd ex th el) = true) : okKd kd = true ∧ (formOf kd).lo ≤ ex.length ∧ ex.length ≤ (formOf kd).hi ∧ Ex.alls frmE ex = true := by
 simp only [frmS,Bool.and_eq_true,decide_eq_true_eq] at h
 exact ⟨h.1.1.1.1.1.1.1,h.1.1.1.1.1.1.2,h.1.1.1.1.1.2,h.2⟩
theorem form_hi (kd : UInt8) : (formOf kd).hi ≤ 5 := by
 unfold formOf
 split
 ·rename_i h
  simp only [okKd,Bool.and_eq_true,decide_eq_true_eq] at h
  have key : ∀ i ∈ List.range 11,(forms.getD i ⟨false,false,0,0,false,false⟩).hi ≤ 5 := by decide
  exact key _ (List.mem_range.2 (by omega))
 ·simp
set_option maxRecDepth 100000 in
theorem statement_any (H : Hp) (G : Gl H) (g : Gt H) (x : Sm) (hth : BodyOf H x.th) (hel : BodyOf H x.el) : StmOf H x := by
 obtain ⟨kd,nm,hd,ex,th,el⟩ := x
 intro cs w0 W bs b a r ind t h hf ha hl hi s
 simp only [Sm.th,Sm.el] at hth hel
 obtain ⟨p,c,p1,c1,p2,c2,rfl,hs,hs1,hs2,hn1,hn2⟩ := sm_open h
 rw [sall_mk,Bool.and_eq_true,Bool.and_eq_true] at hf
 obtain ⟨⟨hf1,hf2⟩,hf3⟩ := hf
 rw [tokS,Bool.and_eq_true] at hf1
 obtain ⟨hfr0,hok2⟩ := hf1
 have hfr := frm_len hfr0
 have hhi := form_hi kd
 obtain ⟨hokd,_,_,hfx⟩ := id hfr
 have hx5 : ex.length ≤ 5 := by omega
 have hcap := hs.cap
 have hcap1 := hs1.cap
 have hcap2 := hs2.cap
 rw [stext_mk] at hl
 refine Sx.enterS Tryz.func133 rfl Tryz.ntmps133 rfl s ?_
 refine .sr<|.bx Z Z Z fun b3 => .ns<|.yv (.fieldAddr Z Fx.field71_3) Z<|.yv (.load Z Fx.agg58 (.head _) Z) Z<|.yv (.lenSl Fx.sl58 Z) Z<|.mk Fx.row66 Fx.zero9 Z Z Z Z (by omega) (by omega) Z fun b10 => .a Z Z<|.nt<|.sq<|.sr<|.yv (.fieldAddr Z Fx.field71_3) Z<|.yv (.load Z Fx.agg58 (.tail _<|.head _) Z) Z<|.yv (.lenSl Fx.sl58 Z) Z<|.m Z Z<|.nt<|.bk<|.lp (X := Nat) [(0,_),(3,_),(4,_),(12,_),(13,_)] ⟨rfl,rfl,rfl,rfl,rfl,trivial⟩ (_ :: _ :: _ :: bs) (fun k => [(14,.int .i64 (k : Nat))]) (fun k => H) (fun k => [.box b10 (((ex.map Ex.text).take k).map strV ++ List.replicate (ex.length - k) (strV [])) 9]) (fun k => k ≤ ex.length) (fun k => ex.length - k) 0 (fun _ s => s) ⟨rfl,trivial⟩ (by omega) fun k hC => ?_
 refine .sr<|.yv (.lss Z Z) Z<|.nt<|.sq<|.cd Z (fun h15 => ?_) (fun h15 => ?_)
 ·try simp only [dt] at h15
  have hk : k < ex.length := by omega
  obtain ⟨bE,oE,cE,hpE,rE,lE,mE⟩ := hs.elem (map_at hk)
  cases hpE
  have hd1 := lall_at hk hok2
  simp only [decide_eq_true_eq] at hd1
  have hf1 := lalls_at hk hfx
  exact .sk<|.tN<|.sq<|.bk<|.sr<|.m Z Z<|.yv (.indexSl Fx.sl58 Z Z Z (by omega) (q := oE + k * 4) Z) Z<|.yv (.loadMW Z Fx.agg60 mE lE) Z<|.al Fx.zero60 Z fun b6 => .a Z Z<|.sV .head Z Z Fx.size60 lE rE.one Z<|.nt<|.rg<|.m Z Z<|.m Z Z<|.yv (.loadW Z Fx.agg60 (.head _) lE) Z<|.yv (.call Fx.call52 Z (fun W s => text_any H G g _ cE W rE hf1 hd1 s.agr)) Z<|.yv (.indexSl Fx.sl66 Z Z Z (by omega) (q := k) (by omega)) Z<|.st (.tail<|.head) Z Z Fx.size9 Z (by simp;omega) (set_fill (by simp) hk _ (by simp))<|.nl<|.bN<|.tN<|.rg<|.yv (.add Z Z (w6 (by omega))) Z<|.m Z Z<|.nt<|.ag (k + 1) ⟨rfl,trivial⟩ ⟨rfl,rfl,rfl,rfl,rfl,trivial⟩ (fun _ s => s.drop) (by omega) (by omega)
 try simp only [df] at h15
 obtain rfl : k = ex.length := by omega
 rw [fill_all (ex.map Ex.text) ex.length (by simp)]
 refine .ex<|.tE<|.tE<|.bE<|.tN<|.sr<|.yv (.fieldAddr Z Fx.field71_0) Z<|.yv (.load Z Fx.agg67 (.tail _<|.head _) Z) Z<|.nt<|.bk<|.sr<|.yv (.eql Z Z) Z<|.a Z Z<|.nt<|.cd Z (fun h27 => ?_) (fun h27 => ?_)
 ·try simp only [dt] at h27
  have e1 : kd = 1 := UInt8.toNat_inj.1 (by show kd.toNat = 1;omega)
  have hlo : 1 ≤ ex.length := by have h5 := hfr.2.1;rw [e1] at h5;exact Nat.le_trans (by decide) h5
  rw [stT,if_pos e1] at hl
  try simp only [List.length_append] at hl
  refine .fl (trip := [(_,_,_),(_,_,_),(_,_,_),(_,_,_),(_,_,_),(_,_,_),(_,_,_)]) 7 [(0,0),(1,0),(2,0),(3,0),(4,0),(5,0),(6,1)] (by kernel_rfl) (by kernel_rfl) Z<|.m Z Z<|.yv (.fieldAddr Z Fx.field71_1) Z<|.yv (.load Z Fx.agg9 (.tail _<|.head _) Z) Z<|.m Z Z<|.yv (.indexSl Fx.sl66 Z Z (i := 0) Z (by omega) (q := 0) Z) Z<|.yv (.load (v := strV ((ex.map Ex.text).getD 0 [])) Z Fx.agg9 (.head _) (strs_at (by rw [List.length_map];omega))) Z<|.bl Z (Fx.bsl66_4 _ _ _ _) Z fun b35 => .fn (tl := [_]) Z<|.cs (X := Value) Fx.call35 Z (fun W s => line_w (parts := [nm,[32,61,32],(ex.map Ex.text).getD 0 [],[59]]) ha (nb Z) (by (try simp only [List.length_append]);omega) (s.pickT (hd := [_,_,_,_,_]) (tl := bs) (hd' := [_,_,_,_,_]) [3,4,0,1,2] Z Z)) Z fun r36 _ => .nl<|.bN<|?_
  exact Sx.retN (.inr rfl) rfl .nil rfl fun W s => ⟨(_,_),(.inr rfl),rfl,by have s2 := (s.pickT (hd := [_,_,_,_,_]) (tl := bs) (hd' := [_,_]) [0,1] rfl rfl);(first | rw [stext_mk,stT,if_pos e1] | rw [stext_mk,stT,if_neg n1,if_pos e2] | rw [stext_mk,stT,if_neg n1,if_neg n2,if_pos e3] | rw [stext_mk,stT,if_neg n1,if_neg n2,if_neg n3,if_pos e4,if_neg (by simpa using q)] | rw [stext_mk,stT,if_neg n1,if_neg n2,if_neg n3,if_pos e4,if_pos (by simpa using q)] | rw [stext_mk,stT,if_neg n1,if_neg n2,if_neg n3,if_neg n4,if_pos e5] | rw [stext_mk,stT,if_neg n1,if_neg n2,if_neg n3,if_neg n4,if_neg n5,if_pos e6] | rw [stext_mk,stT,if_neg n1,if_neg n2,if_neg n3,if_neg n4,if_neg n5,if_neg n6,if_pos e7] | rw [stext_mk,stT,if_neg n1,if_neg n2,if_neg n3,if_neg n4,if_neg n5,if_neg n6,if_neg n7,if_pos e8] | rw [stext_mk,stT,if_neg n1,if_neg n2,if_neg n3,if_neg n4,if_neg n5,if_neg n6,if_neg n7,if_neg n8,if_pos e9] | rw [stext_mk,stT,if_neg n1,if_neg n2,if_neg n3,if_neg n4,if_neg n5,if_neg n6,if_neg n7,if_neg n8,if_neg n9,if_pos e10]);(try simp only [List.append_assoc] at s2 ⊢);(try simp only [List.cons_append] at s2 ⊢);(try simp only [List.nil_append] at s2 ⊢);(try simp only [List.append_nil] at s2 ⊢);exact s2⟩
 try simp only [df] at h27
 have n1 : ¬ kd = 1 := fun e => h27 (by rw [e];rfl)
 refine .sr<|.yv (.eql Z Z) Z<|.a Z Z<|.nt<|.cd Z (fun h37 => ?_) (fun h37 => ?_)
 ·try simp only [dt] at h37
  have e2 : kd = 2 := UInt8.toNat_inj.1 (by show kd.toNat = 2;omega)
  have hlo : 2 ≤ ex.length := by have h5 := hfr.2.1;rw [e2] at h5;exact Nat.le_trans (by decide) h5
  rw [stT,if_neg n1,if_pos e2] at hl
  try simp only [List.length_append] at hl
  refine .fl (trip := [(_,_,_),(_,_,_),(_,_,_),(_,_,_),(_,_,_),(_,_,_),(_,_,_),(_,_,_),(_,_,_),(_,_,_)]) 10 [(0,0),(1,0),(2,0),(3,0),(4,0),(5,0),(6,0),(7,0),(8,0),(9,1)] (by kernel_rfl) (by kernel_rfl) Z<|.m Z Z<|.yv (.fieldAddr Z Fx.field71_1) Z<|.yv (.load Z Fx.agg9 (.tail _<|.head _) Z) Z<|.m Z Z<|.yv (.indexSl Fx.sl66 Z Z (i := 0) Z (by omega) (q := 0) Z) Z<|.yv (.load (v := strV ((ex.map Ex.text).getD 0 [])) Z Fx.agg9 (.head _) (strs_at (by rw [List.length_map];omega))) Z<|.m Z Z<|.yv (.indexSl Fx.sl66 Z Z (i := 1) Z (by omega) (q := 1) Z) Z<|.yv (.load (v := strV ((ex.map Ex.text).getD 1 [])) Z Fx.agg9 (.head _) (strs_at (by rw [List.length_map];omega))) Z<|.bl Z (Fx.bsl66_6 _ _ _ _ _ _) Z fun b48 => .fn (tl := [_]) Z<|.cs (X := Value) Fx.call35 Z (fun W s => line_w (parts := [nm,[91],(ex.map Ex.text).getD 0 [],[93,32,61,32],(ex.map Ex.text).getD 1 [],[59]]) ha (nb Z) (by (try simp only [List.length_append]);omega) (s.pickT (hd := [_,_,_,_,_]) (tl := bs) (hd' := [_,_,_,_,_]) [3,4,0,1,2] Z Z)) Z fun r49 _ => .nl<|.bN<|?_
  exact Sx.retN (.inr rfl) rfl .nil rfl fun W s => ⟨(_,_),(.inr rfl),rfl,by have s2 := (s.pickT (hd := [_,_,_,_,_]) (tl := bs) (hd' := [_,_]) [0,1] rfl rfl);(first | rw [stext_mk,stT,if_pos e1] | rw [stext_mk,stT,if_neg n1,if_pos e2] | rw [stext_mk,stT,if_neg n1,if_neg n2,if_pos e3] | rw [stext_mk,stT,if_neg n1,if_neg n2,if_neg n3,if_pos e4,if_neg (by simpa using q)] | rw [stext_mk,stT,if_neg n1,if_neg n2,if_neg n3,if_pos e4,if_pos (by simpa using q)] | rw [stext_mk,stT,if_neg n1,if_neg n2,if_neg n3,if_neg n4,if_pos e5] | rw [stext_mk,stT,if_neg n1,if_neg n2,if_neg n3,if_neg n4,if_neg n5,if_pos e6] | rw [stext_mk,stT,if_neg n1,if_neg n2,if_neg n3,if_neg n4,if_neg n5,if_neg n6,if_pos e7] | rw [stext_mk,stT,if_neg n1,if_neg n2,if_neg n3,if_neg n4,if_neg n5,if_neg n6,if_neg n7,if_pos e8] | rw [stext_mk,stT,if_neg n1,if_neg n2,if_neg n3,if_neg n4,if_neg n5,if_neg n6,if_neg n7,if_neg n8,if_pos e9] | rw [stext_mk,stT,if_neg n1,if_neg n2,if_neg n3,if_neg n4,if_neg n5,if_neg n6,if_neg n7,if_neg n8,if_neg n9,if_pos e10]);(try simp only [List.append_assoc] at s2 ⊢);(try simp only [List.cons_append] at s2 ⊢);(try simp only [List.nil_append] at s2 ⊢);(try simp only [List.append_nil] at s2 ⊢);exact s2⟩
 try simp only [df] at h37
 have n2 : ¬ kd = 2 := fun e => h37 (by rw [e];rfl)
 refine .sr<|.yv (.eql Z Z) Z<|.a Z Z<|.nt<|.cd Z (fun h50 => ?_) (fun h50 => ?_)
 ·try simp only [dt] at h50
  have e3 : kd = 3 := UInt8.toNat_inj.1 (by show kd.toNat = 3;omega)
  have hlo : 1 ≤ ex.length := by have h5 := hfr.2.1;rw [e3] at h5;exact Nat.le_trans (by decide) h5
  rw [stT,if_neg n1,if_neg n2,if_pos e3] at hl
  try simp only [List.length_append] at hl
  refine .fl (trip := [(_,_,_),(_,_,_),(_,_,_),(_,_,_),(_,_,_),(_,_,_),(_,_,_)]) 7 [(0,0),(1,0),(2,0),(3,0),(4,0),(5,0),(6,1)] (by kernel_rfl) (by kernel_rfl) Z<|.m Z Z<|.yv (.fieldAddr Z Fx.field71_1) Z<|.yv (.load Z Fx.agg9 (.tail _<|.head _) Z) Z<|.m Z Z<|.yv (.indexSl Fx.sl66 Z Z (i := 0) Z (by omega) (q := 0) Z) Z<|.yv (.load (v := strV ((ex.map Ex.text).getD 0 [])) Z Fx.agg9 (.head _) (strs_at (by rw [List.length_map];omega))) Z<|.bl Z (Fx.bsl66_5 _ _ _ _ _) Z fun b58 => .fn (tl := [_]) Z<|.cs (X := Value) Fx.call35 Z (fun W s => line_w (parts := [[100,101,108,101,116,101,32],nm,[91],(ex.map Ex.text).getD 0 [],[93,59]]) ha (nb Z) (by (try simp only [List.length_append]);omega) (s.pickT (hd := [_,_,_,_,_]) (tl := bs) (hd' := [_,_,_,_,_]) [3,4,0,1,2] Z Z)) Z fun r59 _ => .nl<|.bN<|?_
  exact Sx.retN (.inr rfl) rfl .nil rfl fun W s => ⟨(_,_),(.inr rfl),rfl,by have s2 := (s.pickT (hd := [_,_,_,_,_]) (tl := bs) (hd' := [_,_]) [0,1] rfl rfl);(first | rw [stext_mk,stT,if_pos e1] | rw [stext_mk,stT,if_neg n1,if_pos e2] | rw [stext_mk,stT,if_neg n1,if_neg n2,if_pos e3] | rw [stext_mk,stT,if_neg n1,if_neg n2,if_neg n3,if_pos e4,if_neg (by simpa using q)] | rw [stext_mk,stT,if_neg n1,if_neg n2,if_neg n3,if_pos e4,if_pos (by simpa using q)] | rw [stext_mk,stT,if_neg n1,if_neg n2,if_neg n3,if_neg n4,if_pos e5] | rw [stext_mk,stT,if_neg n1,if_neg n2,if_neg n3,if_neg n4,if_neg n5,if_pos e6] | rw [stext_mk,stT,if_neg n1,if_neg n2,if_neg n3,if_neg n4,if_neg n5,if_neg n6,if_pos e7] | rw [stext_mk,stT,if_neg n1,if_neg n2,if_neg n3,if_neg n4,if_neg n5,if_neg n6,if_neg n7,if_pos e8] | rw [stext_mk,stT,if_neg n1,if_neg n2,if_neg n3,if_neg n4,if_neg n5,if_neg n6,if_neg n7,if_neg n8,if_pos e9] | rw [stext_mk,stT,if_neg n1,if_neg n2,if_neg n3,if_neg n4,if_neg n5,if_neg n6,if_neg n7,if_neg n8,if_neg n9,if_pos e10]);(try simp only [List.append_assoc] at s2 ⊢);(try simp only [List.cons_append] at s2 ⊢);(try simp only [List.nil_append] at s2 ⊢);(try simp only [List.append_nil] at s2 ⊢);exact s2⟩
 try simp only [df] at h50
 have n3 : ¬ kd = 3 := fun e => h50 (by rw [e];rfl)
 refine .sr<|.yv (.eql Z Z) Z<|.a Z Z<|.nt<|.cd Z (fun h60 => ?_) (fun h60 => ?_)
 ·try simp only [dt] at h60
  have e4 : kd = 4 := UInt8.toNat_inj.1 (by show kd.toNat = 4;omega)
  have hlo : 1 ≤ ex.length := by have h5 := hfr.2.1;rw [e4] at h5;exact Nat.le_trans (by decide) h5
  rw [stT,if_neg n1,if_neg n2,if_neg n3,if_pos e4] at hl
  try simp only [List.length_append] at hl
  have hq := lineT_len ind [[125]]
  refine .sr<|.m Z Z<|.m Z Z<|.yv (.indexSl Fx.sl66 Z Z (i := 0) Z (by omega) (q := 0) Z) Z<|.yv (.load (v := strV ((ex.map Ex.text).getD 0 [])) Z Fx.agg9 (.head _) (strs_at (by rw [List.length_map];omega))) Z<|.bl Z (Fx.bsl66_3 _ _ _) Z fun b66 => .cs (X := Value) Fx.call35 Z (fun W s => line_w (parts := [[105,102,32],(ex.map Ex.text).getD 0 [],[32,123]]) ha (nb Z) (by (try simp only [List.length_append]);omega) (s.pickT (hd := [_,_,_,_,_]) (tl := bs) (hd' := [_,_,_,_,_]) [3,4,0,1,2] Z Z)) Z fun r67 _ => .ns<|.m Z Z<|.yv (.fieldAddr Z Fx.field71_4) Z<|.yv (.load Z Fx.agg69 (.tail _<|.tail _<|.tail _<|.tail _<|.head _) Z) Z<|.cs (X := Option Addr × Value) Fx.call111 Z (fun W s => hth _ _ _ _ _ _ _ _ _ _ _ hs1 hf2 (.inr Z) (by (try simp only [List.length_append]);omega) (by omega) (s.pickT (hd := [_,_,_,_,_]) (tl := bs) (hd' := [_,_,_,_]) [0,1,3,4] Z Z)) Z fun z71 hz71 => .nt<|.sq<|.sr<|.yv (.fieldAddr Z Fx.field71_5) Z<|.yv (.load Z Fx.agg69 (.tail _<|.tail _<|.tail _<|.head _) Z) Z<|.yv (.lenSl Fx.sl69 Z) Z<|.yv (.gtr Z Z) Z<|.nt<|.cd Z (fun h75 => ?_) (fun h75 => ?_)
  ·try simp only [dt] at h75
   have q : ¬ el.length = 0 := by omega
   rw [if_neg (by simpa using q)] at hl
   simp only [List.length_append] at hl
   refine .sr<|.m Z Z<|.bl Z (Fx.bsl66_1 _) Z fun b77 => .cs (X := Value) Fx.call35 Z (fun W s => line_w (parts := [[125,32,101,108,115,101,32,123]]) hz71 (nb Z) (by (try simp only [List.length_append]);omega) (s.pickT (hd := [_,_,_,_,_]) (tl := bs) (hd' := [_,_,_,_,_]) [1,2,0,3,4] Z Z)) Z fun r78 _ => .nt<|.rg<|.m Z Z<|.yv (.fieldAddr Z Fx.field71_5) Z<|.yv (.load Z Fx.agg69 (.tail _<|.tail _<|.tail _<|.tail _<|.head _) Z) Z<|.cs (X := Option Addr × Value) Fx.call111 Z (fun W s => hel _ _ _ _ _ _ _ _ _ _ _ hs2 hf3 (.inr Z) (by (try simp only [List.length_append]);omega) (by omega) (s.pickT (hd := [_,_,_,_,_]) (tl := bs) (hd' := [_,_,_,_]) [0,1,3,4] Z Z)) Z fun z82 hz82 => .nt<|.rg<|.m Z Z<|.bl Z (Fx.bsl66_1 _) Z fun b84 => .cs (X := Value) Fx.call35 Z (fun W s => line_w (parts := [[125]]) hz82 (nb Z) (by (try simp only [List.length_append]);omega) (s.pickT (hd := [_,_,_,_,_]) (tl := bs) (hd' := [_,_,_,_,_]) [1,2,0,3,4] Z Z)) Z fun r85 _ => .nl<|.bN<|?_
   exact Sx.retN (.inr rfl) rfl .nil rfl fun W s => ⟨(_,_),(.inr rfl),rfl,by have s2 := (s.pickT (hd := [_,_,_,_,_]) (tl := bs) (hd' := [_,_]) [0,1] rfl rfl);(first | rw [stext_mk,stT,if_pos e1] | rw [stext_mk,stT,if_neg n1,if_pos e2] | rw [stext_mk,stT,if_neg n1,if_neg n2,if_pos e3] | rw [stext_mk,stT,if_neg n1,if_neg n2,if_neg n3,if_pos e4,if_neg (by simpa using q)] | rw [stext_mk,stT,if_neg n1,if_neg n2,if_neg n3,if_pos e4,if_pos (by simpa using q)] | rw [stext_mk,stT,if_neg n1,if_neg n2,if_neg n3,if_neg n4,if_pos e5] | rw [stext_mk,stT,if_neg n1,if_neg n2,if_neg n3,if_neg n4,if_neg n5,if_pos e6] | rw [stext_mk,stT,if_neg n1,if_neg n2,if_neg n3,if_neg n4,if_neg n5,if_neg n6,if_pos e7] | rw [stext_mk,stT,if_neg n1,if_neg n2,if_neg n3,if_neg n4,if_neg n5,if_neg n6,if_neg n7,if_pos e8] | rw [stext_mk,stT,if_neg n1,if_neg n2,if_neg n3,if_neg n4,if_neg n5,if_neg n6,if_neg n7,if_neg n8,if_pos e9] | rw [stext_mk,stT,if_neg n1,if_neg n2,if_neg n3,if_neg n4,if_neg n5,if_neg n6,if_neg n7,if_neg n8,if_neg n9,if_pos e10]);(try simp only [List.append_assoc] at s2 ⊢);(try simp only [List.cons_append] at s2 ⊢);(try simp only [List.nil_append] at s2 ⊢);(try simp only [List.append_nil] at s2 ⊢);exact s2⟩
  try simp only [df] at h75
  have q : el.length = 0 := by omega
  rw [if_pos (by simpa using q)] at hl
  refine .sk<|.tN<|.rg<|.m Z Z<|.bl Z (Fx.bsl66_1 _) Z fun b84 => .cs (X := Value) Fx.call35 Z (fun W s => line_w (parts := [[125]]) hz71 (nb Z) (by (try simp only [List.length_append]);omega) (s.pickT (hd := [_,_,_,_,_]) (tl := bs) (hd' := [_,_,_,_,_]) [1,2,0,3,4] Z Z)) Z fun r85 _ => .nl<|.bN<|?_
  exact Sx.retN (.inr rfl) rfl .nil rfl fun W s => ⟨(_,_),(.inr rfl),rfl,by have s2 := (s.pickT (hd := [_,_,_,_,_]) (tl := bs) (hd' := [_,_]) [0,1] rfl rfl);(first | rw [stext_mk,stT,if_pos e1] | rw [stext_mk,stT,if_neg n1,if_pos e2] | rw [stext_mk,stT,if_neg n1,if_neg n2,if_pos e3] | rw [stext_mk,stT,if_neg n1,if_neg n2,if_neg n3,if_pos e4,if_neg (by simpa using q)] | rw [stext_mk,stT,if_neg n1,if_neg n2,if_neg n3,if_pos e4,if_pos (by simpa using q)] | rw [stext_mk,stT,if_neg n1,if_neg n2,if_neg n3,if_neg n4,if_pos e5] | rw [stext_mk,stT,if_neg n1,if_neg n2,if_neg n3,if_neg n4,if_neg n5,if_pos e6] | rw [stext_mk,stT,if_neg n1,if_neg n2,if_neg n3,if_neg n4,if_neg n5,if_neg n6,if_pos e7] | rw [stext_mk,stT,if_neg n1,if_neg n2,if_neg n3,if_neg n4,if_neg n5,if_neg n6,if_neg n7,if_pos e8] | rw [stext_mk,stT,if_neg n1,if_neg n2,if_neg n3,if_neg n4,if_neg n5,if_neg n6,if_neg n7,if_neg n8,if_pos e9] | rw [stext_mk,stT,if_neg n1,if_neg n2,if_neg n3,if_neg n4,if_neg n5,if_neg n6,if_neg n7,if_neg n8,if_neg n9,if_pos e10]);(try simp only [List.append_assoc] at s2 ⊢);(try simp only [List.cons_append] at s2 ⊢);(try simp only [List.nil_append] at s2 ⊢);(try simp only [List.append_nil] at s2 ⊢);exact s2⟩
 try simp only [df] at h60
 have n4 : ¬ kd = 4 := fun e => h60 (by rw [e];rfl)
 refine .sr<|.yv (.eql Z Z) Z<|.a Z Z<|.nt<|.cd Z (fun h86 => ?_) (fun h86 => ?_)
 ·try simp only [dt] at h86
  have e5 : kd = 5 := UInt8.toNat_inj.1 (by show kd.toNat = 5;omega)
  have hlo : 1 ≤ ex.length := by have h5 := hfr.2.1;rw [e5] at h5;exact Nat.le_trans (by decide) h5
  rw [stT,if_neg n1,if_neg n2,if_neg n3,if_neg n4,if_pos e5] at hl
  try simp only [List.length_append] at hl
  have hq := lineT_len ind [[125]]
  refine .sr<|.m Z Z<|.m Z Z<|.yv (.indexSl Fx.sl66 Z Z (i := 0) Z (by omega) (q := 0) Z) Z<|.yv (.load (v := strV ((ex.map Ex.text).getD 0 [])) Z Fx.agg9 (.head _) (strs_at (by rw [List.length_map];omega))) Z<|.bl Z (Fx.bsl66_3 _ _ _) Z fun b92 => .cs (X := Value) Fx.call35 Z (fun W s => line_w (parts := [[119,104,105,108,101,32],(ex.map Ex.text).getD 0 [],[32,123]]) ha (nb Z) (by (try simp only [List.length_append]);omega) (s.pickT (hd := [_,_,_,_,_]) (tl := bs) (hd' := [_,_,_,_,_]) [3,4,0,1,2] Z Z)) Z fun r93 _ => .ns<|.m Z Z<|.yv (.fieldAddr Z Fx.field71_4) Z<|.yv (.load Z Fx.agg69 (.tail _<|.tail _<|.tail _<|.tail _<|.head _) Z) Z<|.cs (X := Option Addr × Value) Fx.call111 Z (fun W s => hth _ _ _ _ _ _ _ _ _ _ _ hs1 hf2 (.inr Z) (by (try simp only [List.length_append]);omega) (by omega) (s.pickT (hd := [_,_,_,_,_]) (tl := bs) (hd' := [_,_,_,_]) [0,1,3,4] Z Z)) Z fun z97 hz97 => .nt<|.rg<|.m Z Z<|.bl Z (Fx.bsl66_1 _) Z fun b99 => .cs (X := Value) Fx.call35 Z (fun W s => line_w (parts := [[125]]) hz97 (nb Z) (by (try simp only [List.length_append]);omega) (s.pickT (hd := [_,_,_,_,_]) (tl := bs) (hd' := [_,_,_,_,_]) [1,2,0,3,4] Z Z)) Z fun r100 _ => .nl<|.bN<|?_
  exact Sx.retN (.inr rfl) rfl .nil rfl fun W s => ⟨(_,_),(.inr rfl),rfl,by have s2 := (s.pickT (hd := [_,_,_,_,_]) (tl := bs) (hd' := [_,_]) [0,1] rfl rfl);(first | rw [stext_mk,stT,if_pos e1] | rw [stext_mk,stT,if_neg n1,if_pos e2] | rw [stext_mk,stT,if_neg n1,if_neg n2,if_pos e3] | rw [stext_mk,stT,if_neg n1,if_neg n2,if_neg n3,if_pos e4,if_neg (by simpa using q)] | rw [stext_mk,stT,if_neg n1,if_neg n2,if_neg n3,if_pos e4,if_pos (by simpa using q)] | rw [stext_mk,stT,if_neg n1,if_neg n2,if_neg n3,if_neg n4,if_pos e5] | rw [stext_mk,stT,if_neg n1,if_neg n2,if_neg n3,if_neg n4,if_neg n5,if_pos e6] | rw [stext_mk,stT,if_neg n1,if_neg n2,if_neg n3,if_neg n4,if_neg n5,if_neg n6,if_pos e7] | rw [stext_mk,stT,if_neg n1,if_neg n2,if_neg n3,if_neg n4,if_neg n5,if_neg n6,if_neg n7,if_pos e8] | rw [stext_mk,stT,if_neg n1,if_neg n2,if_neg n3,if_neg n4,if_neg n5,if_neg n6,if_neg n7,if_neg n8,if_pos e9] | rw [stext_mk,stT,if_neg n1,if_neg n2,if_neg n3,if_neg n4,if_neg n5,if_neg n6,if_neg n7,if_neg n8,if_neg n9,if_pos e10]);(try simp only [List.append_assoc] at s2 ⊢);(try simp only [List.cons_append] at s2 ⊢);(try simp only [List.nil_append] at s2 ⊢);(try simp only [List.append_nil] at s2 ⊢);exact s2⟩
 try simp only [df] at h86
 have n5 : ¬ kd = 5 := fun e => h86 (by rw [e];rfl)
 refine .sr<|.yv (.eql Z Z) Z<|.a Z Z<|.nt<|.cd Z (fun h101 => ?_) (fun h101 => ?_)
 ·try simp only [dt] at h101
  have e6 : kd = 6 := UInt8.toNat_inj.1 (by show kd.toNat = 6;omega)
  have hlo : 0 ≤ ex.length := by have h5 := hfr.2.1;rw [e6] at h5;exact Nat.le_trans (by decide) h5
  rw [stT,if_neg n1,if_neg n2,if_neg n3,if_neg n4,if_neg n5,if_pos e6] at hl
  try simp only [List.length_append] at hl
  have hq := lineT_len ind [[115,101,110,100,32],nm,[46],hd,[40],joinT (ex.map Ex.text),[41,59]]
  simp only [List.flatten_cons,List.length_append] at hq
  refine .fl (trip := [(_,_,_),(_,_,_),(_,_,_),(_,_,_),(_,_,_),(_,_,_),(_,_,_),(_,_,_)]) 8 [(0,0),(1,0),(2,0),(3,0),(4,0),(5,0),(6,0),(7,1)] (by kernel_rfl) (by kernel_rfl) Z<|.m Z Z<|.yv (.fieldAddr Z Fx.field71_1) Z<|.yv (.load Z Fx.agg9 (.tail _<|.head _) Z) Z<|.yv (.fieldAddr Z Fx.field71_2) Z<|.yv (.load Z Fx.agg9 (.tail _<|.head _) Z) Z<|.m Z Z<|.yv (.call Fx.call110 Z (fun W s => join_own (ex.map Ex.text) (by simp) s (.head _) (by simp;omega) (by omega))) Z<|.bl Z (Fx.bsl66_7 _ _ _ _ _ _ _) Z fun b110 => .fn (tl := [_]) Z<|.cs (X := Value) Fx.call35 Z (fun W s => line_w (parts := [[115,101,110,100,32],nm,[46],hd,[40],joinT (ex.map Ex.text),[41,59]]) ha (nb Z) (by (try simp only [List.length_append]);omega) (s.pickT (hd := [_,_,_,_,_]) (tl := bs) (hd' := [_,_,_,_,_]) [3,4,0,1,2] Z Z)) Z fun r111 _ => .nl<|.bN<|?_
  exact Sx.retN (.inr rfl) rfl .nil rfl fun W s => ⟨(_,_),(.inr rfl),rfl,by have s2 := (s.pickT (hd := [_,_,_,_,_]) (tl := bs) (hd' := [_,_]) [0,1] rfl rfl);(first | rw [stext_mk,stT,if_pos e1] | rw [stext_mk,stT,if_neg n1,if_pos e2] | rw [stext_mk,stT,if_neg n1,if_neg n2,if_pos e3] | rw [stext_mk,stT,if_neg n1,if_neg n2,if_neg n3,if_pos e4,if_neg (by simpa using q)] | rw [stext_mk,stT,if_neg n1,if_neg n2,if_neg n3,if_pos e4,if_pos (by simpa using q)] | rw [stext_mk,stT,if_neg n1,if_neg n2,if_neg n3,if_neg n4,if_pos e5] | rw [stext_mk,stT,if_neg n1,if_neg n2,if_neg n3,if_neg n4,if_neg n5,if_pos e6] | rw [stext_mk,stT,if_neg n1,if_neg n2,if_neg n3,if_neg n4,if_neg n5,if_neg n6,if_pos e7] | rw [stext_mk,stT,if_neg n1,if_neg n2,if_neg n3,if_neg n4,if_neg n5,if_neg n6,if_neg n7,if_pos e8] | rw [stext_mk,stT,if_neg n1,if_neg n2,if_neg n3,if_neg n4,if_neg n5,if_neg n6,if_neg n7,if_neg n8,if_pos e9] | rw [stext_mk,stT,if_neg n1,if_neg n2,if_neg n3,if_neg n4,if_neg n5,if_neg n6,if_neg n7,if_neg n8,if_neg n9,if_pos e10]);(try simp only [List.append_assoc] at s2 ⊢);(try simp only [List.cons_append] at s2 ⊢);(try simp only [List.nil_append] at s2 ⊢);(try simp only [List.append_nil] at s2 ⊢);exact s2⟩
 try simp only [df] at h101
 have n6 : ¬ kd = 6 := fun e => h101 (by rw [e];rfl)
 refine .sr<|.yv (.eql Z Z) Z<|.a Z Z<|.nt<|.cd Z (fun h112 => ?_) (fun h112 => ?_)
 ·try simp only [dt] at h112
  have e7 : kd = 7 := UInt8.toNat_inj.1 (by show kd.toNat = 7;omega)
  have hlo : 1 ≤ ex.length := by have h5 := hfr.2.1;rw [e7] at h5;exact Nat.le_trans (by decide) h5
  rw [stT,if_neg n1,if_neg n2,if_neg n3,if_neg n4,if_neg n5,if_neg n6,if_pos e7] at hl
  try simp only [List.length_append] at hl
  have hq := lineT_len ind [[97,102,116,101,114,32],(ex.map Ex.text).getD 0 [],[32,100,111,32],hd,[40],joinT ((ex.map Ex.text).drop 1),[41,59]]
  simp only [List.flatten_cons,List.length_append] at hq
  refine .fl (trip := [(_,_,_),(_,_,_),(_,_,_),(_,_,_),(_,_,_),(_,_,_),(_,_,_),(_,_,_),(_,_,_),(_,_,_)]) 10 [(0,0),(1,0),(2,0),(3,0),(4,0),(5,0),(6,0),(7,0),(8,0),(9,1)] (by kernel_rfl) (by kernel_rfl) Z<|.m Z Z<|.m Z Z<|.yv (.indexSl Fx.sl66 Z Z (i := 0) Z (by omega) (q := 0) Z) Z<|.yv (.load (v := strV ((ex.map Ex.text).getD 0 [])) Z Fx.agg9 (.head _) (strs_at (by rw [List.length_map];omega))) Z<|.yv (.fieldAddr Z Fx.field71_2) Z<|.yv (.load Z Fx.agg9 (.tail _<|.head _) Z) Z<|.m Z Z<|.yv (.cutLo Fx.sl66 Z Z (lo := 1) Z (by omega) (Nat.le_refl _)) Z<|.yv (.call Fx.call110 Z (fun W s => join_own1 (ex.map Ex.text) (by simp) s (.head _) (by simp;omega) (by omega))) Z<|.bl Z (Fx.bsl66_7 _ _ _ _ _ _ _) Z fun b123 => .fn (tl := [_]) Z<|.cs (X := Value) Fx.call35 Z (fun W s => line_w (parts := [[97,102,116,101,114,32],(ex.map Ex.text).getD 0 [],[32,100,111,32],hd,[40],joinT ((ex.map Ex.text).drop 1),[41,59]]) ha (nb Z) (by (try simp only [List.length_append]);omega) (s.pickT (hd := [_,_,_,_,_]) (tl := bs) (hd' := [_,_,_,_,_]) [3,4,0,1,2] Z Z)) Z fun r124 _ => .nl<|.bN<|?_
  exact Sx.retN (.inr rfl) rfl .nil rfl fun W s => ⟨(_,_),(.inr rfl),rfl,by have s2 := (s.pickT (hd := [_,_,_,_,_]) (tl := bs) (hd' := [_,_]) [0,1] rfl rfl);(first | rw [stext_mk,stT,if_pos e1] | rw [stext_mk,stT,if_neg n1,if_pos e2] | rw [stext_mk,stT,if_neg n1,if_neg n2,if_pos e3] | rw [stext_mk,stT,if_neg n1,if_neg n2,if_neg n3,if_pos e4,if_neg (by simpa using q)] | rw [stext_mk,stT,if_neg n1,if_neg n2,if_neg n3,if_pos e4,if_pos (by simpa using q)] | rw [stext_mk,stT,if_neg n1,if_neg n2,if_neg n3,if_neg n4,if_pos e5] | rw [stext_mk,stT,if_neg n1,if_neg n2,if_neg n3,if_neg n4,if_neg n5,if_pos e6] | rw [stext_mk,stT,if_neg n1,if_neg n2,if_neg n3,if_neg n4,if_neg n5,if_neg n6,if_pos e7] | rw [stext_mk,stT,if_neg n1,if_neg n2,if_neg n3,if_neg n4,if_neg n5,if_neg n6,if_neg n7,if_pos e8] | rw [stext_mk,stT,if_neg n1,if_neg n2,if_neg n3,if_neg n4,if_neg n5,if_neg n6,if_neg n7,if_neg n8,if_pos e9] | rw [stext_mk,stT,if_neg n1,if_neg n2,if_neg n3,if_neg n4,if_neg n5,if_neg n6,if_neg n7,if_neg n8,if_neg n9,if_pos e10]);(try simp only [List.append_assoc] at s2 ⊢);(try simp only [List.cons_append] at s2 ⊢);(try simp only [List.nil_append] at s2 ⊢);(try simp only [List.append_nil] at s2 ⊢);exact s2⟩
 try simp only [df] at h112
 have n7 : ¬ kd = 7 := fun e => h112 (by rw [e];rfl)
 refine .sr<|.yv (.eql Z Z) Z<|.a Z Z<|.nt<|.cd Z (fun h125 => ?_) (fun h125 => ?_)
 ·try simp only [dt] at h125
  have e8 : kd = 8 := UInt8.toNat_inj.1 (by show kd.toNat = 8;omega)
  have hlo : 2 ≤ ex.length := by have h5 := hfr.2.1;rw [e8] at h5;exact Nat.le_trans (by decide) h5
  rw [stT,if_neg n1,if_neg n2,if_neg n3,if_neg n4,if_neg n5,if_neg n6,if_neg n7,if_pos e8] at hl
  try simp only [List.length_append] at hl
  have hq := diskT_len ind ([115,116,111,114,101,32] ++ (ex.map Ex.text).getD 0 [] ++ [32,61,32] ++ (ex.map Ex.text).getD 1 []) (decide (el.length = 0)) (Sm.texts (ind + 1) el)
  simp only [List.length_append] at hq
  refine .fl (trip := [(_,_,_),(_,_,_),(_,_,_),(_,_,_),(_,_,_),(_,_,_),(_,_,_),(_,_,_),(_,_,_),(_,_,_),(_,_,_),(_,_,_)]) 12 [(0,0),(1,0),(2,0),(3,0),(4,0),(5,0),(6,0),(7,0),(8,0),(9,0),(10,0),(11,0)] (by kernel_rfl) (by kernel_rfl) Z<|.m Z Z<|.m Z Z<|.yv (.indexSl Fx.sl66 Z Z (i := 0) Z (by omega) (q := 0) Z) Z<|.yv (.load (v := strV ((ex.map Ex.text).getD 0 [])) Z Fx.agg9 (.head _) (strs_at (by rw [List.length_map];omega))) Z<|.yv (.app Z Z (by (try simp only [List.length_append]);(try simp only [List.length_cons,List.length_nil]);(try simp only [List.length_cons,List.length_nil] at hq);omega)) Z<|.yv (.app Z Z (by (try simp only [List.length_append]);(try simp only [List.length_cons,List.length_nil]);(try simp only [List.length_cons,List.length_nil] at hq);omega)) Z<|.m Z Z<|.yv (.indexSl Fx.sl66 Z Z (i := 1) Z (by omega) (q := 1) Z) Z<|.yv (.load (v := strV ((ex.map Ex.text).getD 1 [])) Z Fx.agg9 (.head _) (strs_at (by rw [List.length_map];omega))) Z<|.yv (.app Z Z (by (try simp only [List.length_append]);(try simp only [List.length_cons,List.length_nil]);(try simp only [List.length_cons,List.length_nil] at hq);omega)) Z<|.yv (.fieldAddr Z Fx.field71_5) Z<|.yv (.load Z Fx.agg69 (.tail _<|.head _) Z) Z<|.fn (tl := [_]) Z<|.cs (X := Option Addr × Value) Fx.call150 Z (fun W s => disk_any H el hel _ _ _ _ _ _ _ _ _ _ _ hs2 hf3 ha (by (try simp only [List.length_append]);omega) (by omega) (s.pickT (hd := [_,_,_,_]) (tl := bs) (hd' := [_,_,_,_]) [2,3,0,1] Z Z)) Z fun z139 hz139 => .nl<|.bN<|?_
  exact Sx.retN (.inr rfl) rfl .nil rfl fun W s => ⟨(_,_),hz139,rfl,by have s2 := (s.pickT (hd := [_,_,_,_]) (tl := bs) (hd' := [_,_]) [0,1] rfl rfl);(first | rw [stext_mk,stT,if_pos e1] | rw [stext_mk,stT,if_neg n1,if_pos e2] | rw [stext_mk,stT,if_neg n1,if_neg n2,if_pos e3] | rw [stext_mk,stT,if_neg n1,if_neg n2,if_neg n3,if_pos e4,if_neg (by simpa using q)] | rw [stext_mk,stT,if_neg n1,if_neg n2,if_neg n3,if_pos e4,if_pos (by simpa using q)] | rw [stext_mk,stT,if_neg n1,if_neg n2,if_neg n3,if_neg n4,if_pos e5] | rw [stext_mk,stT,if_neg n1,if_neg n2,if_neg n3,if_neg n4,if_neg n5,if_pos e6] | rw [stext_mk,stT,if_neg n1,if_neg n2,if_neg n3,if_neg n4,if_neg n5,if_neg n6,if_pos e7] | rw [stext_mk,stT,if_neg n1,if_neg n2,if_neg n3,if_neg n4,if_neg n5,if_neg n6,if_neg n7,if_pos e8] | rw [stext_mk,stT,if_neg n1,if_neg n2,if_neg n3,if_neg n4,if_neg n5,if_neg n6,if_neg n7,if_neg n8,if_pos e9] | rw [stext_mk,stT,if_neg n1,if_neg n2,if_neg n3,if_neg n4,if_neg n5,if_neg n6,if_neg n7,if_neg n8,if_neg n9,if_pos e10]);(try simp only [List.append_assoc] at s2 ⊢);(try simp only [List.cons_append] at s2 ⊢);(try simp only [List.nil_append] at s2 ⊢);(try simp only [List.append_nil] at s2 ⊢);exact s2⟩
 try simp only [df] at h125
 have n8 : ¬ kd = 8 := fun e => h125 (by rw [e];rfl)
 refine .sr<|.yv (.eql Z Z) Z<|.a Z Z<|.nt<|.cd Z (fun h140 => ?_) (fun h140 => ?_)
 ·try simp only [dt] at h140
  have e9 : kd = 9 := UInt8.toNat_inj.1 (by show kd.toNat = 9;omega)
  have hlo : 1 ≤ ex.length := by have h5 := hfr.2.1;rw [e9] at h5;exact Nat.le_trans (by decide) h5
  rw [stT,if_neg n1,if_neg n2,if_neg n3,if_neg n4,if_neg n5,if_neg n6,if_neg n7,if_neg n8,if_pos e9] at hl
  try simp only [List.length_append] at hl
  have hq := diskT_len ind ([102,101,116,99,104,32] ++ nm ++ [32,61,32] ++ (ex.map Ex.text).getD 0 []) (decide (el.length = 0)) (Sm.texts (ind + 1) el)
  simp only [List.length_append] at hq
  refine .fl (trip := [(_,_,_),(_,_,_),(_,_,_),(_,_,_),(_,_,_),(_,_,_),(_,_,_),(_,_,_),(_,_,_),(_,_,_),(_,_,_)]) 11 [(0,0),(1,0),(2,0),(3,0),(4,0),(5,0),(6,0),(7,0),(8,0),(9,0),(10,0)] (by kernel_rfl) (by kernel_rfl) Z<|.m Z Z<|.yv (.fieldAddr Z Fx.field71_1) Z<|.yv (.load Z Fx.agg9 (.tail _<|.head _) Z) Z<|.yv (.app Z Z (by (try simp only [List.length_append]);(try simp only [List.length_cons,List.length_nil]);(try simp only [List.length_cons,List.length_nil] at hq);omega)) Z<|.yv (.app Z Z (by (try simp only [List.length_append]);(try simp only [List.length_cons,List.length_nil]);(try simp only [List.length_cons,List.length_nil] at hq);omega)) Z<|.m Z Z<|.yv (.indexSl Fx.sl66 Z Z (i := 0) Z (by omega) (q := 0) Z) Z<|.yv (.load (v := strV ((ex.map Ex.text).getD 0 [])) Z Fx.agg9 (.head _) (strs_at (by rw [List.length_map];omega))) Z<|.yv (.app Z Z (by (try simp only [List.length_append]);(try simp only [List.length_cons,List.length_nil]);(try simp only [List.length_cons,List.length_nil] at hq);omega)) Z<|.yv (.fieldAddr Z Fx.field71_5) Z<|.yv (.load Z Fx.agg69 (.tail _<|.head _) Z) Z<|.fn (tl := [_]) Z<|.cs (X := Option Addr × Value) Fx.call150 Z (fun W s => disk_any H el hel _ _ _ _ _ _ _ _ _ _ _ hs2 hf3 ha (by (try simp only [List.length_append]);omega) (by omega) (s.pickT (hd := [_,_,_,_]) (tl := bs) (hd' := [_,_,_,_]) [2,3,0,1] Z Z)) Z fun z153 hz153 => .nl<|.bN<|?_
  exact Sx.retN (.inr rfl) rfl .nil rfl fun W s => ⟨(_,_),hz153,rfl,by have s2 := (s.pickT (hd := [_,_,_,_]) (tl := bs) (hd' := [_,_]) [0,1] rfl rfl);(first | rw [stext_mk,stT,if_pos e1] | rw [stext_mk,stT,if_neg n1,if_pos e2] | rw [stext_mk,stT,if_neg n1,if_neg n2,if_pos e3] | rw [stext_mk,stT,if_neg n1,if_neg n2,if_neg n3,if_pos e4,if_neg (by simpa using q)] | rw [stext_mk,stT,if_neg n1,if_neg n2,if_neg n3,if_pos e4,if_pos (by simpa using q)] | rw [stext_mk,stT,if_neg n1,if_neg n2,if_neg n3,if_neg n4,if_pos e5] | rw [stext_mk,stT,if_neg n1,if_neg n2,if_neg n3,if_neg n4,if_neg n5,if_pos e6] | rw [stext_mk,stT,if_neg n1,if_neg n2,if_neg n3,if_neg n4,if_neg n5,if_neg n6,if_pos e7] | rw [stext_mk,stT,if_neg n1,if_neg n2,if_neg n3,if_neg n4,if_neg n5,if_neg n6,if_neg n7,if_pos e8] | rw [stext_mk,stT,if_neg n1,if_neg n2,if_neg n3,if_neg n4,if_neg n5,if_neg n6,if_neg n7,if_neg n8,if_pos e9] | rw [stext_mk,stT,if_neg n1,if_neg n2,if_neg n3,if_neg n4,if_neg n5,if_neg n6,if_neg n7,if_neg n8,if_neg n9,if_pos e10]);(try simp only [List.append_assoc] at s2 ⊢);(try simp only [List.cons_append] at s2 ⊢);(try simp only [List.nil_append] at s2 ⊢);(try simp only [List.append_nil] at s2 ⊢);exact s2⟩
 try simp only [df] at h140
 have n9 : ¬ kd = 9 := fun e => h140 (by rw [e];rfl)
 refine .sr<|.yv (.eql Z Z) Z<|.a Z Z<|.nt<|.cd Z (fun h154 => ?_) (fun h154 => ?_)
 ·try simp only [dt] at h154
  have e10 : kd = 10 := UInt8.toNat_inj.1 (by show kd.toNat = 10;omega)
  have hlo : 0 ≤ ex.length := by have h5 := hfr.2.1;rw [e10] at h5;exact Nat.le_trans (by decide) h5
  rw [stT,if_neg n1,if_neg n2,if_neg n3,if_neg n4,if_neg n5,if_neg n6,if_neg n7,if_neg n8,if_neg n9,if_pos e10] at hl
  try simp only [List.length_append] at hl
  refine .rg<|.m Z Z<|.bl Z (Fx.bsl66_1 _) Z fun b157 => .cs (X := Value) Fx.call35 Z (fun W s => line_w (parts := [[115,116,111,112,59]]) ha (nb Z) (by (try simp only [List.length_append]);omega) (s.pickT (hd := [_,_,_,_,_]) (tl := bs) (hd' := [_,_,_,_,_]) [3,4,0,1,2] Z Z)) Z fun r158 _ => .nl<|.bN<|?_
  exact Sx.retN (.inr rfl) rfl .nil rfl fun W s => ⟨(_,_),(.inr rfl),rfl,by have s2 := (s.pickT (hd := [_,_,_,_,_]) (tl := bs) (hd' := [_,_]) [0,1] rfl rfl);(first | rw [stext_mk,stT,if_pos e1] | rw [stext_mk,stT,if_neg n1,if_pos e2] | rw [stext_mk,stT,if_neg n1,if_neg n2,if_pos e3] | rw [stext_mk,stT,if_neg n1,if_neg n2,if_neg n3,if_pos e4,if_neg (by simpa using q)] | rw [stext_mk,stT,if_neg n1,if_neg n2,if_neg n3,if_pos e4,if_pos (by simpa using q)] | rw [stext_mk,stT,if_neg n1,if_neg n2,if_neg n3,if_neg n4,if_pos e5] | rw [stext_mk,stT,if_neg n1,if_neg n2,if_neg n3,if_neg n4,if_neg n5,if_pos e6] | rw [stext_mk,stT,if_neg n1,if_neg n2,if_neg n3,if_neg n4,if_neg n5,if_neg n6,if_pos e7] | rw [stext_mk,stT,if_neg n1,if_neg n2,if_neg n3,if_neg n4,if_neg n5,if_neg n6,if_neg n7,if_pos e8] | rw [stext_mk,stT,if_neg n1,if_neg n2,if_neg n3,if_neg n4,if_neg n5,if_neg n6,if_neg n7,if_neg n8,if_pos e9] | rw [stext_mk,stT,if_neg n1,if_neg n2,if_neg n3,if_neg n4,if_neg n5,if_neg n6,if_neg n7,if_neg n8,if_neg n9,if_pos e10]);(try simp only [List.append_assoc] at s2 ⊢);(try simp only [List.cons_append] at s2 ⊢);(try simp only [List.nil_append] at s2 ⊢);(try simp only [List.append_nil] at s2 ⊢);exact s2⟩
 try simp only [df] at h154
 simp only [okKd,Bool.and_eq_true,decide_eq_true_eq] at hokd
 exact absurd (by omega : False) id
set_option maxRecDepth 100000 in
theorem body_any (H : Hp) (G : Gl H) (g : Gt H) : ∀ x : List Sm,BodyOf H x := by
 refine Sm.lists fun l ih => ?_
 intro p n c w0 W bs b a r ind t hs hf ha hl hi s
 obtain rfl : n = l.length := by have := hs.len.1;simpa using this
 have hcap := hs.cap
 refine Sx.enterS Tryz.func111 rfl Tryz.ntmps111 rfl s ?_
 refine .sr<|.m Z Z<|.yv (.nilCheck Z) Z<|.yv (.fieldAddr Z Fx.field112_1) Z<|.yv (.load Z Fx.agg3 (.head _) Z) Z<|.yv (.add Z Z (c := ((ind + 1 : Nat) : Int)) ((w6 (by omega)).trans (by omega))) Z<|.yv (.nilCheck Z) Z<|.yv (.fieldAddr Z Fx.field112_1) Z<|.st .head Z Z Fx.size3 Z (nb Z) Z<|.nt<|.sq<|.sr<|.m Z Z<|.yv (.lenSl Fx.sl69 Z) Z<|.m Z Z<|.nt<|.bk<|.lp (X := Nat × Option Addr × Value) [(0,_),(13,_),(14,_)] ⟨rfl,rfl,rfl,trivial⟩ (bs) (fun z => [(15,.int .i64 (z.1 : Nat))]) (fun z => H) (fun z => [.box b [.pointer z.2.1,z.2.2,.int .i64 (ind + 1 : Nat)] 112,.row 5 1 z.2.2 (t ++ Sm.texts (ind + 1) (l.take z.1)).length ((t ++ Sm.texts (ind + 1) (l.take z.1)).map byteV)]) (fun z => z.1 ≤ l.length ∧ (z.2.1 = none ∨ z.2.1 = some ⟨b,0,none⟩)) (fun z => l.length - z.1) (0,a,r) (fun _ s => by simpa [Sm.texts] using s) ⟨rfl,trivial⟩ ⟨by simp,ha⟩ fun z hC => ?_
 obtain ⟨k,a,r⟩ := z
 dsimp only at hC ⊢
 obtain ⟨hk0,ha⟩ := hC
 refine .sr<|.yv (.lss Z Z) Z<|.nt<|.sq<|.cd Z (fun h16 => ?_) (fun h16 => ?_)
 ·try simp only [dt] at h16
  have hk : k < l.length := by omega
  obtain ⟨bE,oE,cE,hpE,rE,lE,mE⟩ := hs.elem (map_at hk)
  cases hpE
  have hf1 := salls_at hk hf
  have hle := stexts_take (ind + 1) l (k + 1)
  rw [stexts_succ hk,List.length_append] at hle
  have hi2 := ih _ (List.getElem_mem hk)
  exact .sk<|.tN<|.sq<|.bk<|.sr<|.yv (.indexSl Fx.sl69 Z Z Z (by omega) (q := oE + k * 6) Z) Z<|.yv (.loadMW Z Fx.agg71 mE lE) Z<|.al Fx.zero71 Z fun b5 => .sV .head Z Z Fx.size71 lE rE.one Z<|.nt<|.rg<|.m Z Z<|.yv (.loadW Z Fx.agg71 (.head _) lE) Z<|.cs (X := Option Addr × Value) Fx.call133 Z (fun W s => statement_any H G g _ hi2.1 hi2.2 _ _ _ _ _ _ _ _ _ rE hf1 ha (by (try simp only [List.length_append]);omega) (by omega) (s.pickT (hd := [_,_,_]) (tl := bs) (hd' := [_,_]) [1,2] Z Z)) Z fun z21 hz21 => .nl<|.bN<|.tN<|.rg<|.yv (.add Z Z (w6 (by omega))) Z<|.m Z Z<|.nt<|.ag (x := (k,a,r)) (k + 1,z21.1,z21.2) ⟨rfl,trivial⟩ ⟨rfl,rfl,rfl,trivial⟩ (fun _ s => by have s2 := s;dsimp only;rw [stexts_succ hk];(try simp only [List.append_assoc] at s2 ⊢);(try simp only [List.cons_append] at s2 ⊢);(try simp only [List.nil_append] at s2 ⊢);(try simp only [List.append_nil] at s2 ⊢);exact s2) ⟨by dsimp only;omega,hz21⟩ (by dsimp only;omega)
 try simp only [df] at h16
 obtain rfl : k = l.length := by omega
 rw [List.take_length]
 refine .ex<|.tE<|.tE<|.bE<|.tN<|.rg<|.m Z Z<|.yv (.nilCheck Z) Z<|.yv (.fieldAddr Z Fx.field112_1) Z<|.yv (.load Z Fx.agg3 (.head _) Z) Z<|.yv (.sub Z Z (c := ((ind : Nat) : Int)) ((w6 (by omega)).trans (by omega))) Z<|.yv (.nilCheck Z) Z<|.yv (.fieldAddr Z Fx.field112_1) Z<|.st .head Z Z Fx.size3 Z (nb Z) Z<|.nl<|?_
 exact Sx.retN (.inr rfl) rfl .nil rfl fun W s => ⟨(_,_),ha,rfl,by have s2 := (s.pickT (hd := [_,_]) (tl := bs) (hd' := [_,_]) [0,1] rfl rfl);(skip);(try simp only [List.append_assoc] at s2 ⊢);(try simp only [List.cons_append] at s2 ⊢);(try simp only [List.nil_append] at s2 ⊢);(try simp only [List.append_nil] at s2 ⊢);exact s2⟩
theorem all_imp {q r : Sm → Bool} (h : ∀ s,q s = true → r s = true) : ∀ l,Sm.alls q l = true → Sm.alls r l = true := by
 refine Sm.lists fun l ih => ?_
 induction l with
 | nil => intro _;rfl
 | cons s t iht =>
  intro hl
  obtain ⟨kd,nm,hd,ex,th,el⟩ := s
  have h0 := ih _ (.head _)
  simp only [Sm.th,Sm.el] at h0
  simp only [Sm.alls,sall_mk,Bool.and_eq_true] at hl ⊢
  exact ⟨⟨⟨h _ hl.1.1.1,h0.1 hl.1.1.2⟩,h0.2 hl.1.2⟩,iht (fun x hx => ih x (.tail _ hx)) hl.2⟩
theorem salls_and {q r : Sm → Bool} : ∀ l,Sm.alls q l = true → Sm.alls r l = true → Sm.alls (fun s => q s && r s) l = true := by
 refine Sm.lists fun l ih => ?_
 induction l with
 | nil => intro _ _;rfl
 | cons s t iht =>
  intro hl hr
  obtain ⟨kd,nm,hd,ex,th,el⟩ := s
  have h0 := ih _ (.head _)
  simp only [Sm.th,Sm.el] at h0
  simp only [Sm.alls,sall_mk,Bool.and_eq_true] at hl hr ⊢
  exact ⟨⟨⟨⟨hl.1.1.1,hr.1.1.1⟩,h0.1 hl.1.1.2 hr.1.1.2⟩,h0.2 hl.1.2 hr.1.2⟩,iht (fun x hx => ih x (.tail _ hx)) hl.2 hr.2⟩
def tokH (h : Hd) : Bool := decide (h.ps.length ≤ 1000) && Sm.alls tokS h.body
theorem tok_good {h : Hd} (h1 : smaH h = true) (h2 : namH h = true) (h3 : frmH h = true) : tokH h = true := by
 simp only [smaH,Bool.and_eq_true,Bool.not_eq_true',Bool.or_eq_false_iff,decide_eq_false_iff_not] at h1
 simp only [namH,Bool.and_eq_true] at h2
 simp only [tokH,Bool.and_eq_true,decide_eq_true_eq]
 refine ⟨by omega,all_imp (q := fun s => (smaS s && namS s) && frmS s) ?_ _ (salls_and _ (salls_and _ h1.2 h2.2) h3)⟩
 rintro ⟨kd,nm,hd,ex,th,el⟩ hs
 simp only [Bool.and_eq_true] at hs
 obtain ⟨⟨k1,k2⟩,k3⟩ := hs
 rw [tokS,k3,Bool.true_and,List.all_eq_true]
 intro x hx
 have k4 := (frm_len k3).2.2.2
 simp only [smaS,List.all_eq_true,decide_eq_true_eq] at k1
 simp only [namS,Bool.and_eq_true] at k2
 have := text_len8 (k1 x hx) (alls_mem hx k2.2) (alls_mem hx k4)
 simp only [decide_eq_true_eq];omega
theorem boolT_eq (b : Bool) : Lib.formatBool b = boolT b := by cases b <;> decide
theorem formatBool_any (b : Bool) (w : World) : Calls Tryz.prog 36 #[.bool b] w fun r w' => r = .returned (strV (boolT b)) ∧ Ext w w' :=
 (Tryz.strconv_FormatBool b w).mono fun _ _ ⟨he,hw⟩ => ⟨by rw [he,boolT_eq];rfl,hw ▸ Ext.refl w⟩
theorem itoa_any (H : Hp) (g : Gt H) (n : Int) (h0 : -9223372036854775808 ≤ n) (h1 : n ≤ 9223372036854775807) (w : World) (hA : Agr H w) : Calls Tryz.prog 37 #[.int .i64 n] w fun r w' => r = .returned (strV (Lib.itoa n)) ∧ Ext w w' :=
 (Tryz.strconv_Itoa n h0 h1 w (g w hA)).mono fun _ _ ⟨he,k,os,hw⟩ => ⟨he,hw ▸ ((Ext.refl w).drewN k).trans (ext_grow os)⟩
theorem join_mem {H : Hp} {W : World} (hA : Agr H W) (ps : List Str) {p : Option Addr} {c : Nat} (h : Rep H (.seq 1 (ps.map dStr)) [.slice p ps.length c]) (hN : ps.length ≤ 1000) (hl : (joinT ps).length ≤ 140737488355328) :
 Calls Tryz.prog 110 #[.slice p ps.length c,strV [44,32]] W fun e w' => e = .returned (strV (joinT ps)) ∧ Ext W w' := by
 by_cases h0 : ps.length = 0
 ·obtain rfl := List.eq_nil_of_length_eq_zero h0
  exact (Tryz.strings_Join_none p c ⟨#[44,32]⟩ W).mono fun e w' ⟨he,hw⟩ => ⟨he,hw ▸ Ext.refl W⟩
 ·obtain ⟨b,o,cs,rfl,r0,l0,⟨arr,T,m,m1,m2⟩⟩ := h.elem (map_at (f := dStr) (show 0 < ps.length by omega))
  refine join_W W b o c ps (fun j x e => ?_) (block_lt (hA _ _ m1)) (by omega) h.len.2.1 hl
  obtain ⟨b',o',cs',e1,r1,l1,m1'⟩ := h.elem (i := j) (d := dStr x) (by rw [List.getElem?_map,e];rfl)
  cases e1
  obtain ⟨rfl,_⟩ := str_open r1
  have := m1'.cell (j := 0) hA rfl
  simpa using this
theorem hdsT_succ {n : Nat} {l : List Hd} {k : Nat} (h : k < l.length) : hdsT n (l.take (k + 1)) = hdsT n (l.take k) ++ hdT n l[k] := mflat_succ h
theorem hdsT_take (n : Nat) (l : List Hd) (k : Nat) : (hdsT n (l.take k)).length ≤ (hdsT n l).length := mflat_take l k
set_option maxRecDepth 100000 in
theorem handlers_any (H : Hp) (G : Gl H) (g : Gt H) (l : List Hd) (cs : List Value) (w0 W : World) (bs : List Res) (b : Nat) (a : Option Addr) (r : Value) (ind : Nat) (t : Str) (h : Rep H (dVs .u8 l) cs) (hf : l.all tokH = true) (ha : (a = none ∨ a = some ⟨b,0,none⟩)) (hl : t.length + (hdsT ind l).length ≤ 10000000000000) (hi : ind ≤ 10000000000000) (s : St H w0 (.box b [.pointer a,r,.int .i64 (ind : Nat)] 112 :: .row 5 1 r (t).length ((t).map byteV) :: bs) W) :
 Calls Tryz.prog 78 #[.pointer (some ⟨b,0,none⟩),.agg cs.toArray] W fun e W' => ∃ z : Option Addr × Value,(z.1 = none ∨ z.1 = some ⟨b,0,none⟩) ∧ e = .returned (.tuple #[]) ∧ St H w0 (.box b [.pointer z.1,z.2,.int .i64 (ind : Nat)] 112 :: .row 5 1 z.2 (t ++ hdsT ind l).length ((t ++ hdsT ind l).map byteV) :: bs) W' := by
 obtain ⟨p,c,rfl,hs⟩ := vs_open h
 have hcap := hs.cap
 refine Sx.enterS Tryz.func78 rfl Tryz.ntmps78 rfl s ?_
 refine .sr<|.bx Z Z Z fun b3 => .ns<|.yv (.fieldAddr Z Fx.field76_0) Z<|.yv (.load Z Fx.agg74 (.head _) Z) Z<|.yv (.lenSl Fx.sl74 Z) Z<|.m Z Z<|.nt<|.bk<|.lp (X := Nat × Option Addr × Value) [(0,_),(7,_),(8,_)] ⟨rfl,rfl,rfl,trivial⟩ (_ :: bs) (fun z => [(9,.int .i64 (z.1 : Nat))]) (fun z => H) (fun z => [.box b [.pointer z.2.1,z.2.2,.int .i64 (ind : Nat)] 112,.row 5 1 z.2.2 (t ++ hdsT ind (l.take z.1)).length ((t ++ hdsT ind (l.take z.1)).map byteV)]) (fun z => z.1 ≤ l.length ∧ (z.2.1 = none ∨ z.2.1 = some ⟨b,0,none⟩)) (fun z => l.length - z.1) (0,a,r) (fun _ s => by have s2 := (s.pickT (hd := [_,_,_]) (tl := bs) (hd' := [_,_,_]) [1,2,0] Z Z);simpa [hdsT] using s2) ⟨rfl,trivial⟩ ⟨by simp,ha⟩ fun z hC => ?_
 obtain ⟨k,a,r⟩ := z
 dsimp only at hC ⊢
 obtain ⟨hk0,ha⟩ := hC
 refine .sr<|.yv (.lss Z Z) Z<|.nt<|.sq<|.cd Z (fun h10 => ?_) (fun h10 => ?_)
 ·try simp only [dt] at h10
  have hk : k < l.length := by omega
  obtain ⟨bE,oE,cE,hpE,rE,lE,mE⟩ := hs.elem (map_at hk)
  cases hpE
  have hf1 := lall_at hk hf
  have hle := hdsT_take ind l (k + 1)
  rw [hdsT_succ hk,List.length_append] at hle
  generalize hx : l[k] = x at rE hf1 hle
  obtain ⟨p1,c1,p2,c2,rfl,hn1,hs1,hs2⟩ := hd_open rE
  simp only [tokH,Bool.and_eq_true,decide_eq_true_eq] at hf1
  obtain ⟨hf1,hf2⟩ := hf1
  have hq := lineT_len ind [[125]]
  have hq2 := lineT_len ind [[111,110,32],x.nm,[40],joinT x.ps,[41,32,123]]
  simp only [List.flatten_cons,List.length_append] at hq2
  simp only [hdT,List.length_append] at hle
  exact .sk<|.tN<|.sq<|.bk<|.sr<|.yv (.indexSl Fx.sl74 Z Z Z (by omega) (q := oE + k * 3) Z) Z<|.yv (.loadMW Z Fx.agg73 mE Z) Z<|.al Fx.zero73 Z fun b5 => .sW .head Z Z Fx.size73 (by simp [Value.oneCell',strV]) Z<|.nt<|.sq<|.fl (trip := [(_,_,_),(_,_,_),(_,_,_),(_,_,_),(_,_,_),(_,_,_),(_,_,_)]) 7 [(0,0),(1,0),(2,0),(3,0),(4,0),(5,0),(6,1)] (by kernel_rfl) (by kernel_rfl) Z<|.m Z Z<|.yv (.fieldAddr Z Fx.field73_0) Z<|.yv (.load Z Fx.agg9 (.head _) Z) Z<|.yv (.fieldAddr Z Fx.field73_1) Z<|.yv (.load Z Fx.agg66 (.head _) Z) Z<|.yv (.call Fx.call110 Z (fun W s => join_mem s.agr x.ps hs1 hf1 (by omega))) Z<|.bl Z (Fx.bsl66_5 _ _ _ _ _) Z fun b19 => .fn (tl := [_]) Z<|.cs (X := Value) Fx.call35 Z (fun W s => line_w (parts := [[111,110,32],x.nm,[40],joinT x.ps,[41,32,123]]) ha (nb Z) (by (try simp only [List.length_append]);omega) (s.pickT (hd := [_,_,_,_,_]) (tl := bs) (hd' := [_,_,_,_,_]) [2,3,0,1,4] Z Z)) Z fun r20 _ => .ns<|.m Z Z<|.yv (.fieldAddr Z Fx.field73_2) Z<|.yv (.load Z Fx.agg69 (.tail _<|.tail _<|.tail _<|.head _) Z) Z<|.cs (X := Option Addr × Value) Fx.call111 Z (fun W s => body_any H G g _ _ _ _ _ _ _ _ _ _ _ _ hs2 hf2 (.inr Z) (by (try simp only [List.length_append]);omega) (by omega) (s.pickT (hd := [_,_,_,_,_]) (tl := bs) (hd' := [_,_,_,_]) [0,1,3,4] Z Z)) Z fun z24 hz24 => .nt<|.rg<|.m Z Z<|.bl Z (Fx.bsl66_1 _) Z fun b26 => .cs (X := Value) Fx.call35 Z (fun W s => line_w (parts := [[125]]) hz24 (nb Z) (by (try simp only [List.length_append]);omega) (s.pickT (hd := [_,_,_,_,_]) (tl := bs) (hd' := [_,_,_,_,_]) [1,2,0,3,4] Z Z)) Z fun r27 _ => .nl<|.bN<|.tN<|.rg<|.yv (.add Z Z (w6 (by omega))) Z<|.m Z Z<|.nt<|.ag (x := (k,a,r)) (k + 1,some ⟨b,0,none⟩,r27) ⟨rfl,trivial⟩ ⟨rfl,rfl,rfl,trivial⟩ (fun _ s => by have s2 := (s.pickT (hd := [_,_,_,_,_]) (tl := bs) (hd' := [_,_,_]) [0,1,4] Z Z);dsimp only;rw [hdsT_succ hk,hx,hdT];(try simp only [List.append_assoc] at s2 ⊢);(try simp only [List.cons_append] at s2 ⊢);(try simp only [List.nil_append] at s2 ⊢);(try simp only [List.append_nil] at s2 ⊢);exact s2) ⟨by dsimp only;omega,(.inr Z)⟩ (by dsimp only;omega)
 try simp only [df] at h10
 obtain rfl : k = l.length := by omega
 rw [List.take_length]
 refine .ex<|.tE<|.tE<|.bE<|?_
 exact Sx.retN (.inr rfl) rfl .nil rfl fun W s => ⟨(_,_),ha,rfl,by have s2 := (s.pickT (hd := [_,_,_]) (tl := bs) (hd' := [_,_]) [0,1] rfl rfl);(skip);(try simp only [List.append_assoc] at s2 ⊢);(try simp only [List.cons_append] at s2 ⊢);(try simp only [List.nil_append] at s2 ⊢);(try simp only [List.append_nil] at s2 ⊢);exact s2⟩
set_option maxRecDepth 100000 in
theorem component_any (H : Hp) (G : Gl H) (g : Gt H) (x : Cp) (cs : List Value) (w0 W : World) (bs : List Res) (b : Nat) (a : Option Addr) (r : Value) (t : Str) (h : Rep H (dCp .u8 x) cs) (hf : cpAll tokH x = true) (ha : (a = none ∨ a = some ⟨b,0,none⟩)) (hl : t.length + (cpT x).length ≤ 10000000000000) (s : St H w0 (.box b [.pointer a,r,.int .i64 (1 : Nat)] 112 :: .row 5 1 r (t).length ((t).map byteV) :: bs) W) :
 Calls Tryz.prog 38 #[.pointer (some ⟨b,0,none⟩),.agg cs.toArray] W fun e W' => ∃ z : Option Addr × Value,(z.1 = none ∨ z.1 = some ⟨b,0,none⟩) ∧ e = .returned (.tuple #[]) ∧ St H w0 (.box b [.pointer z.1,z.2,.int .i64 (1 : Nat)] 112 :: .row 5 1 z.2 (t ++ cpT x).length ((t ++ cpT x).map byteV) :: bs) W' := by
 obtain ⟨p1,c1,p2,c2,rfl,hn1,hs1,hs2⟩ := cp_open h
 have hcap1 := hs1.cap
 have hcap2 := hs2.cap
 simp only [cpAll] at hf
 rw [cpT] at hl
 simp only [List.length_append] at hl
 refine Sx.enterS Tryz.func38 rfl Tryz.ntmps38 rfl s ?_
 refine .sr<|.bx Z Z Z fun b3 => .ns<|.m Z Z<|.yv (.fieldAddr Z Fx.field80_0) Z<|.yv (.load Z Fx.agg9 (.head _) Z) Z<|.bl Z (Fx.bsl66_3 _ _ _) Z fun b11 => .cs (X := Value) Fx.call35 Z (fun W s => line_w (parts := [[99,111,109,112,111,110,101,110,116,32],x.nm,[32,123]]) ha (nb Z) (by (try simp only [List.length_append]);omega) (s.pickT (hd := [_,_,_,_]) (tl := bs) (hd' := [_,_,_,_]) [2,3,0,1] Z Z)) Z fun r12 _ => .ns<|.m Z Z<|.yv (.nilCheck Z) Z<|.yv (.fieldAddr Z Fx.field112_1) Z<|.yv (.load Z Fx.agg3 (.head _) Z) Z<|.yv (.add Z Z (c := ((2 : Nat) : Int)) (by decide)) Z<|.yv (.nilCheck Z) Z<|.yv (.fieldAddr Z Fx.field112_1) Z<|.st .head Z Z Fx.size3 Z (nb Z) Z<|.nt<|.sq<|.sr<|.yv (.fieldAddr Z Fx.field80_1) Z<|.yv (.load Z Fx.agg78 (.tail _<|.tail _<|.tail _<|.head _) Z) Z<|.yv (.lenSl Fx.sl78 Z) Z<|.m Z Z<|.nt<|.bk<|.lp (X := Nat × Option Addr × Value) [(0,_),(3,_),(21,_),(22,_)] ⟨rfl,rfl,rfl,rfl,trivial⟩ (_ :: bs) (fun z => [(23,.int .i64 (z.1 : Nat))]) (fun z => H) (fun z => [.box b [.pointer z.2.1,z.2.2,.int .i64 (2 : Nat)] 112,.row 5 1 z.2.2 (t ++ lineT 1 [[99,111,109,112,111,110,101,110,116,32],x.nm,[32,123]] ++ ((x.vars.take z.1).map (vrT 2)).flatten).length ((t ++ lineT 1 [[99,111,109,112,111,110,101,110,116,32],x.nm,[32,123]] ++ ((x.vars.take z.1).map (vrT 2)).flatten).map byteV)]) (fun z => z.1 ≤ x.vars.length ∧ (z.2.1 = none ∨ z.2.1 = some ⟨b,0,none⟩)) (fun z => x.vars.length - z.1) (0,some ⟨b,0,none⟩,r12) (fun _ s => by have s2 := (s.pickT (hd := [_,_,_,_]) (tl := bs) (hd' := [_,_,_]) [0,1,3] Z Z);simpa using s2) ⟨rfl,trivial⟩ ⟨by simp,.inr Z⟩ fun z hC => ?_
 obtain ⟨k,a,r⟩ := z
 dsimp only at hC ⊢
 obtain ⟨hk0,ha⟩ := hC
 refine .sr<|.yv (.lss Z Z) Z<|.nt<|.sq<|.cd Z (fun h24 => ?_) (fun h24 => ?_)
 ·try simp only [dt] at h24
  have hk : k < x.vars.length := by omega
  obtain ⟨bE,oE,cE,hpE,rE,lE,mE⟩ := hs1.elem (map_at hk)
  cases hpE
  have hle := mflat_take (g := vrT 2) x.vars (k + 1)
  rw [mflat_succ hk,List.length_append] at hle
  generalize hx : x.vars[k] = v at rE hle
  obtain ⟨rfl,hn2⟩ := vr_open rE
  refine .sk<|.tN<|.sq<|.bk<|.sr<|.yv (.indexSl Fx.sl78 Z Z Z (by omega) (q := oE + k * 3) Z) Z<|.yv (.loadMW Z Fx.agg96 mE Z) Z<|.al Fx.zero96 Z fun b5 => .sW .head Z Z Fx.size96 (by simp [Value.oneCell',strV]) Z<|.ns<|.yv (.fieldAddr Z Fx.field96_1) Z<|.yv (.load Z Fx.agg94 (.head _) Z) Z<|.nt<|.bk<|.sr<|.yv (.eql Z Z) Z<|.a Z Z<|.nt<|.cd Z (fun h29 => ?_) (fun h29 => ?_)
  ·try simp only [dt] at h29
   have e1 : v.ty = 1 := UInt8.toNat_inj.1 (by show v.ty.toNat = 1;omega)
   rw [vrT,if_pos e1] at hle
   exact .fl (trip := [(_,_,_),(_,_,_),(_,_,_),(_,_,_),(_,_,_),(_,_,_),(_,_,_)]) 7 [(0,0),(1,0),(2,0),(3,0),(4,0),(5,0),(6,1)] (by kernel_rfl) (by kernel_rfl) Z<|.m Z Z<|.yv (.fieldAddr Z Fx.field96_0) Z<|.yv (.load Z Fx.agg9 (.head _) Z) Z<|.yv (.fieldAddr Z Fx.field96_2) Z<|.yv (.load Z Fx.agg2 (.head _) Z) Z<|.yv (.call Fx.call77 Z (fun W s => formatInt_any H g v.init W s.agr)) Z<|.bl Z (Fx.bsl66_5 _ _ _ _ _) Z fun b37 => .fn (tl := [_]) Z<|.cs (X := Value) Fx.call35 Z (fun W s => line_w (parts := [[118,97,114,32],v.nm,[58,32,105,110,116,32,61,32],Lib.itoa v.init.toInt,[59]]) ha (nb Z) (by (try simp only [List.length_append]);omega) (s.pickT (hd := [_,_,_,_,_]) (tl := bs) (hd' := [_,_,_,_,_]) [2,3,0,1,4] Z Z)) Z fun r38 _ => .nl<|.bN<|.bN<|.tN<|.rg<|.yv (.add Z Z (w6 (by omega))) Z<|.m Z Z<|.nt<|.ag (x := (k,a,r)) (k + 1,some ⟨b,0,none⟩,r38) ⟨rfl,trivial⟩ ⟨rfl,rfl,rfl,rfl,trivial⟩ (fun _ s => by have s2 := (s.pickT (hd := [_,_,_,_,_]) (tl := bs) (hd' := [_,_,_]) [0,1,4] Z Z);dsimp only;rw [mflat_succ hk,hx];(first | rw [vrT,if_pos e1] | rw [vrT,if_neg n1,if_pos e2] | rw [vrT,if_neg n1,if_neg n2,if_pos e3] | rw [vrT,if_neg n1,if_neg n2,if_neg n3]);(try simp only [List.append_assoc] at s2 ⊢);(try simp only [List.cons_append] at s2 ⊢);(try simp only [List.nil_append] at s2 ⊢);(try simp only [List.append_nil] at s2 ⊢);exact s2) ⟨by dsimp only;omega,(.inr Z)⟩ (by dsimp only;omega)
  try simp only [df] at h29
  have n1 : ¬ v.ty = 1 := fun e => h29 (by rw [e];rfl)
  refine .sr<|.yv (.eql Z Z) Z<|.a Z Z<|.nt<|.cd Z (fun h39 => ?_) (fun h39 => ?_)
  ·try simp only [dt] at h39
   have e2 : v.ty = 2 := UInt8.toNat_inj.1 (by show v.ty.toNat = 2;omega)
   rw [vrT,if_neg n1,if_pos e2] at hle
   exact .fl (trip := [(_,_,_),(_,_,_),(_,_,_),(_,_,_),(_,_,_),(_,_,_),(_,_,_),(_,_,_)]) 8 [(0,0),(1,0),(2,0),(3,0),(4,0),(5,0),(6,0),(7,1)] (by kernel_rfl) (by kernel_rfl) Z<|.m Z Z<|.yv (.fieldAddr Z Fx.field96_0) Z<|.yv (.load Z Fx.agg9 (.head _) Z) Z<|.yv (.fieldAddr Z Fx.field96_2) Z<|.yv (.load Z Fx.agg2 (.head _) Z) Z<|.yv (.eql Z Z) Z<|.yv (.call Fx.call36 Z (fun W s => formatBool_any _ W)) Z<|.bl Z (Fx.bsl66_5 _ _ _ _ _) Z fun b48 => .fn (tl := [_]) Z<|.cs (X := Value) Fx.call35 Z (fun W s => line_w (parts := [[118,97,114,32],v.nm,[58,32,98,111,111,108,32,61,32],boolT (decide (v.init.toInt = 1)),[59]]) ha (nb Z) (by (try simp only [List.length_append]);omega) (s.pickT (hd := [_,_,_,_,_]) (tl := bs) (hd' := [_,_,_,_,_]) [2,3,0,1,4] Z Z)) Z fun r49 _ => .nl<|.bN<|.bN<|.tN<|.rg<|.yv (.add Z Z (w6 (by omega))) Z<|.m Z Z<|.nt<|.ag (x := (k,a,r)) (k + 1,some ⟨b,0,none⟩,r49) ⟨rfl,trivial⟩ ⟨rfl,rfl,rfl,rfl,trivial⟩ (fun _ s => by have s2 := (s.pickT (hd := [_,_,_,_,_]) (tl := bs) (hd' := [_,_,_]) [0,1,4] Z Z);dsimp only;rw [mflat_succ hk,hx];(first | rw [vrT,if_pos e1] | rw [vrT,if_neg n1,if_pos e2] | rw [vrT,if_neg n1,if_neg n2,if_pos e3] | rw [vrT,if_neg n1,if_neg n2,if_neg n3]);(try simp only [List.append_assoc] at s2 ⊢);(try simp only [List.cons_append] at s2 ⊢);(try simp only [List.nil_append] at s2 ⊢);(try simp only [List.append_nil] at s2 ⊢);exact s2) ⟨by dsimp only;omega,(.inr Z)⟩ (by dsimp only;omega)
  try simp only [df] at h39
  have n2 : ¬ v.ty = 2 := fun e => h39 (by rw [e];rfl)
  refine .sr<|.yv (.eql Z Z) Z<|.a Z Z<|.nt<|.cd Z (fun h50 => ?_) (fun h50 => ?_)
  ·try simp only [dt] at h50
   have e3 : v.ty = 3 := UInt8.toNat_inj.1 (by show v.ty.toNat = 3;omega)
   rw [vrT,if_neg n1,if_neg n2,if_pos e3] at hle
   exact .rg<|.m Z Z<|.yv (.fieldAddr Z Fx.field96_0) Z<|.yv (.load Z Fx.agg9 (.head _) Z) Z<|.bl Z (Fx.bsl66_3 _ _ _) Z fun b55 => .cs (X := Value) Fx.call35 Z (fun W s => line_w (parts := [[118,97,114,32],v.nm,[58,32,116,97,98,108,101,59]]) ha (nb Z) (by (try simp only [List.length_append]);omega) (s.pickT (hd := [_,_,_,_,_]) (tl := bs) (hd' := [_,_,_,_,_]) [2,3,0,1,4] Z Z)) Z fun r56 _ => .nl<|.bN<|.bN<|.tN<|.rg<|.yv (.add Z Z (w6 (by omega))) Z<|.m Z Z<|.nt<|.ag (x := (k,a,r)) (k + 1,some ⟨b,0,none⟩,r56) ⟨rfl,trivial⟩ ⟨rfl,rfl,rfl,rfl,trivial⟩ (fun _ s => by have s2 := (s.pickT (hd := [_,_,_,_,_]) (tl := bs) (hd' := [_,_,_]) [0,1,4] Z Z);dsimp only;rw [mflat_succ hk,hx];(first | rw [vrT,if_pos e1] | rw [vrT,if_neg n1,if_pos e2] | rw [vrT,if_neg n1,if_neg n2,if_pos e3] | rw [vrT,if_neg n1,if_neg n2,if_neg n3]);(try simp only [List.append_assoc] at s2 ⊢);(try simp only [List.cons_append] at s2 ⊢);(try simp only [List.nil_append] at s2 ⊢);(try simp only [List.append_nil] at s2 ⊢);exact s2) ⟨by dsimp only;omega,(.inr Z)⟩ (by dsimp only;omega)
  try simp only [df] at h50
  have n3 : ¬ v.ty = 3 := fun e => h50 (by rw [e];rfl)
  exact .sk<|.bN<|.bN<|.tN<|.rg<|.yv (.add Z Z (w6 (by omega))) Z<|.m Z Z<|.nt<|.ag (x := (k,a,r)) (k + 1,a,r) ⟨rfl,trivial⟩ ⟨rfl,rfl,rfl,rfl,trivial⟩ (fun _ s => by have s2 := s.drop;dsimp only;rw [mflat_succ hk,hx];(first | rw [vrT,if_pos e1] | rw [vrT,if_neg n1,if_pos e2] | rw [vrT,if_neg n1,if_neg n2,if_pos e3] | rw [vrT,if_neg n1,if_neg n2,if_neg n3]);(try simp only [List.append_assoc] at s2 ⊢);(try simp only [List.cons_append] at s2 ⊢);(try simp only [List.nil_append] at s2 ⊢);(try simp only [List.append_nil] at s2 ⊢);exact s2) ⟨by dsimp only;omega,ha⟩ (by dsimp only;omega)
 try simp only [df] at h24
 obtain rfl : k = x.vars.length := by omega
 rw [List.take_length]
 refine .ex<|.tE<|.tE<|.bE<|.tN<|.sq<|.sr<|.yv (.fieldAddr Z Fx.field80_2) Z<|.yv (.load Z Fx.agg77 (.tail _<|.tail _<|.head _) Z) Z<|.yv (.lenSl Fx.sl77 Z) Z<|.m Z Z<|.nt<|.bk<|.lp (X := Nat × Option Addr × Value) [(0,_),(59,_),(60,_)] ⟨rfl,rfl,rfl,trivial⟩ (_ :: bs) (fun z => [(61,.int .i64 (z.1 : Nat))]) (fun z => H) (fun z => [.box b [.pointer z.2.1,z.2.2,.int .i64 (2 : Nat)] 112,.row 5 1 z.2.2 (t ++ lineT 1 [[99,111,109,112,111,110,101,110,116,32],x.nm,[32,123]] ++ (x.vars.map (vrT 2)).flatten ++ vssT 2 0 (x.vers.take z.1)).length ((t ++ lineT 1 [[99,111,109,112,111,110,101,110,116,32],x.nm,[32,123]] ++ (x.vars.map (vrT 2)).flatten ++ vssT 2 0 (x.vers.take z.1)).map byteV)]) (fun z => z.1 ≤ x.vers.length ∧ (z.2.1 = none ∨ z.2.1 = some ⟨b,0,none⟩)) (fun z => x.vers.length - z.1) (0,a,r) (fun _ s => by have s2 := s;simpa [vssT] using s2) ⟨rfl,trivial⟩ ⟨by simp,ha⟩ fun z hC => ?_
 obtain ⟨k,a,r⟩ := z
 dsimp only at hC ⊢
 obtain ⟨hk0,ha⟩ := hC
 refine .sr<|.yv (.lss Z Z) Z<|.nt<|.sq<|.cd Z (fun h62 => ?_) (fun h62 => ?_)
 ·try simp only [dt] at h62
  have hk : k < x.vers.length := by omega
  obtain ⟨bE,oE,cE,hpE,rE,lE,mE⟩ := hs2.elem (map_at hk)
  cases hpE
  have hf1 := lall_at hk hf
  have hle := vssT_take 2 x.vers (k + 1)
  rw [vssT_succ hk,List.length_append] at hle
  generalize hx : x.vers[k] = v at rE hf1 hle
  refine .sk<|.tN<|.sq<|.bk<|.sr<|.m Z Z<|.yv (.indexSl Fx.sl77 Z Z Z (by omega) (q := oE + k * 1) Z) Z<|.yv (.loadMW Z Fx.agg76 mE lE) Z<|.al Fx.zero76 Z fun b7 => .a Z Z<|.sV .head Z Z Fx.size76 lE rE.one Z<|.nt<|.sq<|.sr<|.m Z Z<|.yv (.eql Z Z) Z<|.nt<|.cd Z (fun h67 => ?_) (fun h67 => ?_)
  ·try simp only [dt] at h67
   have q : k = 0 := by omega
   rw [vsT,if_pos q] at hle
   exact .sr<|.m Z Z<|.yv (.loadW Z Fx.agg76 (.head _) lE) Z<|.cs (X := Option Addr × Value) Fx.call78 Z (fun W s => handlers_any H G g _ _ _ _ _ _ _ _ _ _ rE hf1 ha (by (try simp only [List.length_append]);omega) (by omega) (s.pickT (hd := [_,_,_,_]) (tl := bs) (hd' := [_,_,_,_]) [1,2,0,3] Z Z)) Z fun z70 hz70 => .nt<|.ex<|.tE<|.bE<|.tN<|.rg<|.yv (.add Z Z (w6 (by omega))) Z<|.m Z Z<|.nt<|.ag (x := (k,a,r)) (k + 1,z70.1,z70.2) ⟨rfl,trivial⟩ ⟨rfl,rfl,rfl,trivial⟩ (fun _ s => by have s2 := (s.pickT (hd := [_,_,_,_]) (tl := bs) (hd' := [_,_,_]) [0,1,3] Z Z);dsimp only;rw [vssT_succ hk,hx];(first | rw [vsT,if_pos q] | rw [vsT,if_neg q]);(try simp only [List.append_assoc] at s2 ⊢);(try simp only [List.cons_append] at s2 ⊢);(try simp only [List.nil_append] at s2 ⊢);(try simp only [List.append_nil] at s2 ⊢);exact s2) ⟨by dsimp only;omega,hz70⟩ (by dsimp only;omega)
  try simp only [df] at h67
  have q : ¬ k = 0 := by omega
  rw [vsT,if_neg q,show (2 : Nat) + 1 = 3 from rfl] at hle
  simp only [List.length_append] at hle
  exact .sk<|.tN<|.sr<|.m Z Z<|.m Z Z<|.yv (.add Z Z (c := ((k + 1 : Nat) : Int)) ((w6 (by omega)).trans (by omega))) Z<|.yv (.call Fx.call37 Z (fun W s => itoa_any H g _ (by omega) (by omega) W s.agr)) Z<|.bl Z (Fx.bsl66_3 _ _ _) Z fun b75 => .cs (X := Value) Fx.call35 Z (fun W s => line_w (parts := [[118,101,114,115,105,111,110,32],Lib.itoa ((k + 1 : Nat) : Int),[32,123]]) ha (nb Z) (by (try simp only [List.length_append]);omega) (s.pickT (hd := [_,_,_,_,_]) (tl := bs) (hd' := [_,_,_,_,_]) [2,3,0,1,4] Z Z)) Z fun r76 _ => .ns<|.m Z Z<|.yv (.nilCheck Z) Z<|.yv (.fieldAddr Z Fx.field112_1) Z<|.yv (.load Z Fx.agg3 (.head _) Z) Z<|.yv (.add Z Z (c := ((3 : Nat) : Int)) (by decide)) Z<|.yv (.nilCheck Z) Z<|.yv (.fieldAddr Z Fx.field112_1) Z<|.st .head Z Z Fx.size3 Z (nb Z) Z<|.ns<|.m Z Z<|.yv (.loadW Z Fx.agg76 (.tail _<|.tail _<|.tail _<|.head _) lE) Z<|.cs (X := Option Addr × Value) Fx.call78 Z (fun W s => handlers_any H G g _ _ _ _ _ _ _ _ _ _ rE hf1 (.inr Z) (by (try simp only [List.length_append]);omega) (by omega) (s.pickT (hd := [_,_,_,_,_]) (tl := bs) (hd' := [_,_,_,_]) [0,1,3,4] Z Z)) Z fun z86 hz86 => .ns<|.m Z Z<|.yv (.nilCheck Z) Z<|.yv (.fieldAddr Z Fx.field112_1) Z<|.yv (.load Z Fx.agg3 (.head _) Z) Z<|.yv (.sub Z Z (c := ((2 : Nat) : Int)) (by decide)) Z<|.yv (.nilCheck Z) Z<|.yv (.fieldAddr Z Fx.field112_1) Z<|.st .head Z Z Fx.size3 Z (nb Z) Z<|.nt<|.rg<|.m Z Z<|.bl Z (Fx.bsl66_1 _) Z fun b95 => .cs (X := Value) Fx.call35 Z (fun W s => line_w (parts := [[125]]) hz86 (nb Z) (by (try simp only [List.length_append]);omega) (s.pickT (hd := [_,_,_,_,_]) (tl := bs) (hd' := [_,_,_,_,_]) [1,2,0,3,4] Z Z)) Z fun r96 _ => .nl<|.bN<|.tN<|.rg<|.yv (.add Z Z (w6 (by omega))) Z<|.m Z Z<|.nt<|.ag (x := (k,a,r)) (k + 1,some ⟨b,0,none⟩,r96) ⟨rfl,trivial⟩ ⟨rfl,rfl,rfl,trivial⟩ (fun _ s => by have s2 := (s.pickT (hd := [_,_,_,_,_]) (tl := bs) (hd' := [_,_,_]) [0,1,4] Z Z);dsimp only;rw [vssT_succ hk,hx];(first | rw [vsT,if_pos q] | rw [vsT,if_neg q]);(try simp only [List.append_assoc] at s2 ⊢);(try simp only [List.cons_append] at s2 ⊢);(try simp only [List.nil_append] at s2 ⊢);(try simp only [List.append_nil] at s2 ⊢);exact s2) ⟨by dsimp only;omega,(.inr Z)⟩ (by dsimp only;omega)
 try simp only [df] at h62
 obtain rfl : k = x.vers.length := by omega
 rw [List.take_length]
 refine .ex<|.tE<|.tE<|.bE<|.tN<|.sr<|.m Z Z<|.yv (.nilCheck Z) Z<|.yv (.fieldAddr Z Fx.field112_1) Z<|.yv (.load Z Fx.agg3 (.head _) Z) Z<|.yv (.sub Z Z (c := ((1 : Nat) : Int)) (by decide)) Z<|.yv (.nilCheck Z) Z<|.yv (.fieldAddr Z Fx.field112_1) Z<|.st .head Z Z Fx.size3 Z (nb Z) Z<|.nt<|.rg<|.m Z Z<|.bl Z (Fx.bsl66_1 _) Z fun b106 => .cs (X := Value) Fx.call35 Z (fun W s => line_w (parts := [[125]]) ha (nb Z) (by (try simp only [List.length_append]);omega) (s.pickT (hd := [_,_,_,_]) (tl := bs) (hd' := [_,_,_,_]) [1,2,0,3] Z Z)) Z fun r107 _ => .nl<|?_
 exact Sx.retN (.inr rfl) rfl .nil rfl fun W s => ⟨(_,_),(.inr rfl),rfl,by have s2 := (s.pickT (hd := [_,_,_,_]) (tl := bs) (hd' := [_,_]) [0,1] rfl rfl);(rw [cpT]);(try simp only [List.append_assoc] at s2 ⊢);(try simp only [List.cons_append] at s2 ⊢);(try simp only [List.nil_append] at s2 ⊢);(try simp only [List.append_nil] at s2 ⊢);exact s2⟩
theorem string_w {H : Hp} {w0 W : World} {bs : List Res} {b : Nat} {a : Option Addr} {r i : Value} {l : Str} (s : St H w0 (.box b [.pointer a,r,i] 112 :: .row 5 1 r l.length (l.map byteV) :: bs) W) (h0 : l ≠ []) (hl : l.length ≤ 140737488355328) :
 Calls Tryz.prog 39 #[.pointer (some ⟨b,0,none⟩)] W fun e W' => ∃ _ : Unit,True ∧ e = .returned (strV l) ∧ St H w0 [] W' := by
 have ho := (s.own _ (.tail _ (.head _))).1
 rcases ho.2 with ⟨_,h⟩ | ⟨g,cap,cur,rfl,_,_,h1,_⟩
 ·exact absurd (List.eq_nil_of_length_eq_zero h) h0
 ·exact string_st s h0 h1 hl
theorem tokF_good {x : Ft} (h : checkF x = 0) : x.comps.all (cpAll tokH) = true := by
 unfold checkF at h
 split at h
 ·cases h
 split at h
 ·cases h
 split at h
 ·cases h
 rename_i h1 h2 h3
 simp only [Bool.not_eq_false,smlF,namF,frmF,Bool.and_eq_true] at h1 h2 h3
 have k1 := h1.2.2
 have k2 := h2.2
 have k3 := h3.2
 rw [evH_eq] at k1 k2 k3
 simp only [cpAll,List.all_eq_true] at k1 k2 k3 ⊢
 exact fun c hc v hv d hd => tok_good (k1 c hc v hv d hd) (k2 c hc v hv d hd) (k3 c hc v hv d hd)
set_option maxRecDepth 100000 in
theorem print_any (H : Hp) (G : Gl H) (g : Gt H) (x : Ft) (cs : List Value) (h : Rep H (dFt .u8 x) cs) (hok : evH okH x = true) (hl0 : checkF x = 0 → (ftT x).length ≤ 10000000000000) (w : World) (hA : Agr H w) :
 Calls Tryz.prog 13 #[.agg cs.toArray] w fun r w' => r = .returned (strV (if checkF x = 0 then ftT x else [])) ∧ Ext w w' := by
 obtain ⟨p1,c1,p2,c2,p3,c3,rfl,hn1,hs1,hs2,hs3⟩ := ft_open h
 have hcap1 := hs1.cap
 have hcap2 := hs2.cap
 have hcap3 := hs3.cap
 refine Sx.enter (H := H) Tryz.func13 rfl Tryz.ntmps13 rfl hA ?_
 refine .sr<|.bx Z Z Z fun b1 => .a Z Z<|.nt<|.sq<|.sr<|.yv (.loadW Z Fx.agg40 (.head _) Z) Z<|.yv (.call Fx.call9 Z (fun W s => check_any H G x _ h hok W s.agr)) Z<|.yv (.neq Z Z) Z<|.nt<|.cd Z (fun h12 => ?_) (fun h12 => ?_)
 ·try simp only [dt] at h12
  refine .sr<|.a Z Z<|.nt<|.rt<|.tR<|?_
  exact Sx.ret1 (.inl rfl) rfl (.tmp rfl) fun W s => ⟨by rw [if_neg (by omega)];rfl,s.ext⟩
 try simp only [df] at h12
 have hck : checkF x = 0 := by simp at h12;omega
 have hl := hl0 hck
 rw [ftT] at hl
 simp only [List.length_append] at hl
 have h00 : ([] : Str).length = 0 := rfl
 have hf := tokF_good hck
 refine .sk<|.tN<|.sr<|.yv (.build Z Fx.bld112) Z<|.bx Z Z Z fun b => ?_
 refine Sx.row0 5 1 ?_
 refine .a Z Z<|.ns<|.m Z Z<|.yv (.fieldAddr Z Fx.field40_0) Z<|.yv (.load Z Fx.agg9 (.tail _<|.tail _<|.head _) Z) Z<|.bl Z (Fx.bsl66_3 _ _ _) Z fun b18 => .cs (X := Value) Fx.call35 Z (fun W s => line_w (t := []) (parts := [[102,108,101,101,116,32],x.nm,[32,123]]) (.inl Z) (nb Z) (by (try simp only [List.length_append]);omega) (s.pickT (hd := [_,_,_,_]) (tl := []) (hd' := [_,_,_,_]) [2,1,0,3] Z Z)) Z fun r19 _ => .ns<|.m Z Z<|.yv (.nilCheck Z) Z<|.yv (.fieldAddr Z Fx.field112_1) Z<|.yv (.load Z Fx.agg3 (.head _) Z) Z<|.yv (.add Z Z (c := ((1 : Nat) : Int)) (by decide)) Z<|.yv (.nilCheck Z) Z<|.yv (.fieldAddr Z Fx.field112_1) Z<|.st .head Z Z Fx.size3 Z (nb Z) Z<|.nt<|.sq<|.sr<|.yv (.fieldAddr Z Fx.field40_1) Z<|.yv (.load Z Fx.agg36 (.tail _<|.tail _<|.tail _<|.head _) Z) Z<|.yv (.lenSl Fx.sl36 Z) Z<|.m Z Z<|.nt<|.bk<|.lp (X := Nat × Option Addr × Value) [(1,_),(3,_),(28,_),(29,_)] ⟨rfl,rfl,rfl,rfl,trivial⟩ (_ :: []) (fun z => [(30,.int .i64 (z.1 : Nat))]) (fun z => H) (fun z => [.box b [.pointer z.2.1,z.2.2,.int .i64 (1 : Nat)] 112,.row 5 1 z.2.2 ([] ++ lineT 0 [[102,108,101,101,116,32],x.nm,[32,123]] ++ ((x.flags.take z.1).map fgT).flatten).length (([] ++ lineT 0 [[102,108,101,101,116,32],x.nm,[32,123]] ++ ((x.flags.take z.1).map fgT).flatten).map byteV)]) (fun z => z.1 ≤ x.flags.length ∧ (z.2.1 = none ∨ z.2.1 = some ⟨b,0,none⟩)) (fun z => x.flags.length - z.1) (0,some ⟨b,0,none⟩,r19) (fun _ s => by have s2 := (s.pickT (hd := [_,_,_,_]) (tl := []) (hd' := [_,_,_]) [0,1,3] Z Z);simpa using s2) ⟨rfl,trivial⟩ ⟨by simp,.inr Z⟩ fun z hC => ?_
 obtain ⟨k,a,r⟩ := z
 dsimp only at hC ⊢
 obtain ⟨hk0,ha⟩ := hC
 refine .sr<|.yv (.lss Z Z) Z<|.nt<|.sq<|.cd Z (fun h31 => ?_) (fun h31 => ?_)
 ·try simp only [dt] at h31
  have hk : k < x.flags.length := by omega
  obtain ⟨bE,oE,cE,hpE,rE,lE,mE⟩ := hs1.elem (map_at hk)
  cases hpE
  have hle := mflat_take (g := fgT) x.flags (k + 1)
  rw [mflat_succ hk,List.length_append] at hle
  generalize hx : x.flags[k] = v at rE hle
  obtain ⟨rfl,hn2⟩ := fg_open rE
  rw [fgT] at hle
  exact .sk<|.tN<|.sq<|.bk<|.sr<|.yv (.indexSl Fx.sl36 Z Z Z (by omega) (q := oE + k * 2) Z) Z<|.yv (.loadMW Z Fx.agg65 mE Z) Z<|.al Fx.zero65 Z fun b5 => .sW .head Z Z Fx.size65 (by simp [Value.oneCell',strV]) Z<|.nt<|.fl (trip := [(_,_,_),(_,_,_),(_,_,_),(_,_,_),(_,_,_),(_,_,_),(_,_,_)]) 7 [(0,0),(1,0),(2,0),(3,0),(4,0),(5,0),(6,1)] (by kernel_rfl) (by kernel_rfl) Z<|.m Z Z<|.yv (.fieldAddr Z Fx.field65_0) Z<|.yv (.load Z Fx.agg9 (.head _) Z) Z<|.yv (.fieldAddr Z Fx.field65_1) Z<|.yv (.load Z Fx.agg4 (.head _) Z) Z<|.yv (.call Fx.call36 Z (fun W s => formatBool_any _ W)) Z<|.bl Z (Fx.bsl66_5 _ _ _ _ _) Z fun b40 => .fn (tl := [_]) Z<|.cs (X := Value) Fx.call35 Z (fun W s => line_w (parts := [[102,108,97,103,32],v.nm,[32,61,32],boolT v.init,[59]]) ha (nb Z) (by (try simp only [List.length_append]);omega) (s.pickT (hd := [_,_,_,_,_]) (tl := []) (hd' := [_,_,_,_,_]) [2,3,0,1,4] Z Z)) Z fun r41 _ => .nl<|.bN<|.tN<|.rg<|.yv (.add Z Z (w6 (by omega))) Z<|.m Z Z<|.nt<|.ag (x := (k,a,r)) (k + 1,some ⟨b,0,none⟩,r41) ⟨rfl,trivial⟩ ⟨rfl,rfl,rfl,rfl,trivial⟩ (fun _ s => by have s2 := (s.pickT (hd := [_,_,_,_,_]) (tl := []) (hd' := [_,_,_]) [0,1,4] Z Z);dsimp only;rw [mflat_succ hk,hx,fgT];(try simp only [List.append_assoc] at s2 ⊢);(try simp only [List.cons_append] at s2 ⊢);(try simp only [List.nil_append] at s2 ⊢);(try simp only [List.append_nil] at s2 ⊢);exact s2) ⟨by dsimp only;omega,(.inr Z)⟩ (by dsimp only;omega)
 try simp only [df] at h31
 obtain rfl : k = x.flags.length := by omega
 rw [List.take_length]
 refine .ex<|.tE<|.tE<|.bE<|.tN<|.sq<|.sr<|.yv (.fieldAddr Z Fx.field40_2) Z<|.yv (.load Z Fx.agg37 (.tail _<|.tail _<|.head _) Z) Z<|.yv (.lenSl Fx.sl37 Z) Z<|.m Z Z<|.nt<|.bk<|.lp (X := Nat × Option Addr × Value) [(1,_),(3,_),(44,_),(45,_)] ⟨rfl,rfl,rfl,rfl,trivial⟩ (_ :: []) (fun z => [(46,.int .i64 (z.1 : Nat))]) (fun z => H) (fun z => [.box b [.pointer z.2.1,z.2.2,.int .i64 (1 : Nat)] 112,.row 5 1 z.2.2 ([] ++ lineT 0 [[102,108,101,101,116,32],x.nm,[32,123]] ++ (x.flags.map fgT).flatten ++ ((x.links.take z.1).map lkT).flatten).length (([] ++ lineT 0 [[102,108,101,101,116,32],x.nm,[32,123]] ++ (x.flags.map fgT).flatten ++ ((x.links.take z.1).map lkT).flatten).map byteV)]) (fun z => z.1 ≤ x.links.length ∧ (z.2.1 = none ∨ z.2.1 = some ⟨b,0,none⟩)) (fun z => x.links.length - z.1) (0,a,r) (fun _ s => by have s2 := s;simpa using s2) ⟨rfl,trivial⟩ ⟨by simp,ha⟩ fun z hC => ?_
 obtain ⟨k,a,r⟩ := z
 dsimp only at hC ⊢
 obtain ⟨hk0,ha⟩ := hC
 refine .sr<|.yv (.lss Z Z) Z<|.nt<|.sq<|.cd Z (fun h47 => ?_) (fun h47 => ?_)
 ·try simp only [dt] at h47
  have hk : k < x.links.length := by omega
  obtain ⟨bE,oE,cE,hpE,rE,lE,mE⟩ := hs2.elem (map_at hk)
  cases hpE
  have hle := mflat_take (g := lkT) x.links (k + 1)
  rw [mflat_succ hk,List.length_append] at hle
  generalize hx : x.links[k] = v at rE hle
  obtain ⟨rfl,hn2,hn3⟩ := lk_open rE
  rw [lkT] at hle
  exact .sk<|.tN<|.sq<|.bk<|.sr<|.yv (.indexSl Fx.sl37 Z Z Z (by omega) (q := oE + k * 3) Z) Z<|.yv (.loadMW Z Fx.agg87 mE Z) Z<|.al Fx.zero87 Z fun b7 => .sW .head Z Z Fx.size87 (by simp [Value.oneCell',strV]) Z<|.nt<|.fl (trip := [(_,_,_),(_,_,_),(_,_,_),(_,_,_),(_,_,_),(_,_,_),(_,_,_),(_,_,_),(_,_,_)]) 9 [(0,0),(1,0),(2,0),(3,0),(4,0),(5,0),(6,0),(7,0),(8,1)] (by kernel_rfl) (by kernel_rfl) Z<|.m Z Z<|.yv (.fieldAddr Z Fx.field87_0) Z<|.yv (.load Z Fx.agg9 (.head _) Z) Z<|.yv (.fieldAddr Z Fx.field87_1) Z<|.yv (.load Z Fx.agg9 (.head _) Z) Z<|.yv (.fieldAddr Z Fx.field87_2) Z<|.yv (.load Z Fx.agg3 (.head _) Z) Z<|.yv (.call Fx.call37 Z (fun W s => itoa_any H g _ (by have := v.lat.le_toInt;omega) (by have := v.lat.toInt_lt;omega) W s.agr)) Z<|.bl Z (Fx.bsl66_7 _ _ _ _ _ _ _) Z fun b58 => .fn (tl := [_]) Z<|.cs (X := Value) Fx.call35 Z (fun W s => line_w (parts := [[108,105,110,107,32],v.fr,[32,45,62,32],v.to,[32,108,97,116,101,110,99,121,32],Lib.itoa v.lat.toInt,[59]]) ha (nb Z) (by (try simp only [List.length_append]);omega) (s.pickT (hd := [_,_,_,_,_]) (tl := []) (hd' := [_,_,_,_,_]) [2,3,0,1,4] Z Z)) Z fun r59 _ => .nl<|.bN<|.tN<|.rg<|.yv (.add Z Z (w6 (by omega))) Z<|.m Z Z<|.nt<|.ag (x := (k,a,r)) (k + 1,some ⟨b,0,none⟩,r59) ⟨rfl,trivial⟩ ⟨rfl,rfl,rfl,rfl,trivial⟩ (fun _ s => by have s2 := (s.pickT (hd := [_,_,_,_,_]) (tl := []) (hd' := [_,_,_]) [0,1,4] Z Z);dsimp only;rw [mflat_succ hk,hx,lkT];(try simp only [List.append_assoc] at s2 ⊢);(try simp only [List.cons_append] at s2 ⊢);(try simp only [List.nil_append] at s2 ⊢);(try simp only [List.append_nil] at s2 ⊢);exact s2) ⟨by dsimp only;omega,(.inr Z)⟩ (by dsimp only;omega)
 try simp only [df] at h47
 obtain rfl : k = x.links.length := by omega
 rw [List.take_length]
 refine .ex<|.tE<|.tE<|.bE<|.tN<|.sq<|.sr<|.yv (.fieldAddr Z Fx.field40_3) Z<|.yv (.load Z Fx.agg38 (.tail _<|.tail _<|.head _) Z) Z<|.yv (.lenSl Fx.sl38 Z) Z<|.m Z Z<|.nt<|.bk<|.lp (X := Nat × Option Addr × Value) [(3,_),(62,_),(63,_)] ⟨rfl,rfl,rfl,trivial⟩ (_ :: []) (fun z => [(64,.int .i64 (z.1 : Nat))]) (fun z => H) (fun z => [.box b [.pointer z.2.1,z.2.2,.int .i64 (1 : Nat)] 112,.row 5 1 z.2.2 ([] ++ lineT 0 [[102,108,101,101,116,32],x.nm,[32,123]] ++ (x.flags.map fgT).flatten ++ (x.links.map lkT).flatten ++ ((x.comps.take z.1).map cpT).flatten).length (([] ++ lineT 0 [[102,108,101,101,116,32],x.nm,[32,123]] ++ (x.flags.map fgT).flatten ++ (x.links.map lkT).flatten ++ ((x.comps.take z.1).map cpT).flatten).map byteV)]) (fun z => z.1 ≤ x.comps.length ∧ (z.2.1 = none ∨ z.2.1 = some ⟨b,0,none⟩)) (fun z => x.comps.length - z.1) (0,a,r) (fun _ s => by have s2 := s;simpa using s2) ⟨rfl,trivial⟩ ⟨by simp,ha⟩ fun z hC => ?_
 obtain ⟨k,a,r⟩ := z
 dsimp only at hC ⊢
 obtain ⟨hk0,ha⟩ := hC
 refine .sr<|.yv (.lss Z Z) Z<|.nt<|.sq<|.cd Z (fun h65 => ?_) (fun h65 => ?_)
 ·try simp only [dt] at h65
  have hk : k < x.comps.length := by omega
  obtain ⟨bE,oE,cE,hpE,rE,lE,mE⟩ := hs3.elem (map_at hk)
  cases hpE
  have hle := mflat_take (g := cpT) x.comps (k + 1)
  rw [mflat_succ hk,List.length_append] at hle
  have hf1 := lall_at hk hf
  generalize hx : x.comps[k] = v at rE hle hf1
  exact .sk<|.tN<|.sq<|.bk<|.sr<|.yv (.indexSl Fx.sl38 Z Z Z (by omega) (q := oE + k * 3) Z) Z<|.yv (.loadMW Z Fx.agg80 mE lE) Z<|.al Fx.zero80 Z fun b9 => .sV .head Z Z Fx.size80 lE rE.one Z<|.nt<|.rg<|.m Z Z<|.yv (.loadW Z Fx.agg80 (.head _) lE) Z<|.cs (X := Option Addr × Value) Fx.call38 Z (fun W s => component_any H G g _ _ _ _ _ _ _ _ _ rE hf1 ha (by (try simp only [List.length_append]);omega) (s.pickT (hd := [_,_,_,_]) (tl := []) (hd' := [_,_,_,_]) [1,2,0,3] Z Z)) Z fun z70 hz70 => .nl<|.bN<|.tN<|.rg<|.yv (.add Z Z (w6 (by omega))) Z<|.m Z Z<|.nt<|.ag (x := (k,a,r)) (k + 1,z70.1,z70.2) ⟨rfl,trivial⟩ ⟨rfl,rfl,rfl,trivial⟩ (fun _ s => by have s2 := (s.pickT (hd := [_,_,_,_]) (tl := []) (hd' := [_,_,_]) [0,1,3] Z Z);dsimp only;rw [mflat_succ hk,hx];(try simp only [List.append_assoc] at s2 ⊢);(try simp only [List.cons_append] at s2 ⊢);(try simp only [List.nil_append] at s2 ⊢);(try simp only [List.append_nil] at s2 ⊢);exact s2) ⟨by dsimp only;omega,hz70⟩ (by dsimp only;omega)
 try simp only [df] at h65
 obtain rfl : k = x.comps.length := by omega
 rw [List.take_length]
 refine .ex<|.tE<|.tE<|.bE<|.tN<|.sr<|.m Z Z<|.yv (.nilCheck Z) Z<|.yv (.fieldAddr Z Fx.field112_1) Z<|.yv (.load Z Fx.agg3 (.head _) Z) Z<|.yv (.sub Z Z (c := ((0 : Nat) : Int)) (by decide)) Z<|.yv (.nilCheck Z) Z<|.yv (.fieldAddr Z Fx.field112_1) Z<|.st .head Z Z Fx.size3 Z (nb Z) Z<|.ns<|.m Z Z<|.bl Z (Fx.bsl66_1 _) Z fun b80 => .cs (X := Value) Fx.call35 Z (fun W s => line_w (parts := [[125]]) ha (nb Z) (by (try simp only [List.length_append]);omega) (s.pickT (hd := [_,_,_,_]) (tl := []) (hd' := [_,_,_,_]) [1,2,0,3] Z Z)) Z fun r81 _ => .ns<|.m Z Z<|.yv (.nilCheck Z) Z<|.yv (.fieldAddr Z Fx.field112_0) Z<|.cs (X := Unit) Fx.call39 Z (fun W s => string_w (s.pickT (hd := [_,_,_,_]) (tl := []) (hd' := [_,_]) [0,1] Z Z) (by simp [lineT]) (by (try simp only [List.length_append]);omega)) Z fun _ _ => .a Z Z<|.nt<|.rt<|?_
 exact Sx.ret1 (.inl rfl) rfl (.tmp rfl) fun W s => ⟨by rw [if_pos hck,ftT];simp,s.ext⟩
theorem textE_good {e : Ex} (h : checkE e = 0) : Ex.all frmE e = true ∧ e.text.length ≤ 1000000000 := by
 unfold checkE at h
 split at h
 ·cases h
 split at h
 ·cases h
 split at h
 ·cases h
 rename_i h1 h2 h3
 have := text_len8 (e := e) (by omega) (by simpa using h2) (by simpa using h3)
 exact ⟨by simpa using h3,by omega⟩
theorem ex_len {H : Hp} {k : IntKind} {e : Ex} {cs : List Value} (h : Rep H (dEx k e) cs) : cs.length = 4 := by
 obtain ⟨op,nm,n,args⟩ := e
 obtain ⟨p,c,rfl,_⟩ := ex_open h
 rfl
set_option maxRecDepth 100000 in
theorem printExpr_any (H : Hp) (G : Gl H) (g : Gt H) (e : Ex) (cs : List Value) (h : Rep H (dEx .u8 e) cs) (he : e.depth ≤ 1000000) (w : World) (hA : Agr H w) :
 Calls Tryz.prog 22 #[.agg cs.toArray] w fun r w' => r = .returned (strV (if checkE e = 0 then e.text else [])) ∧ Ext w w' := by
 refine Sx.enter (H := H) Tryz.func22 rfl Tryz.ntmps22 rfl hA ?_
 refine .sr<|.bx Z Z Z fun b1 => .a Z Z<|.nt<|.sq<|.sr<|.yv (.loadW Z Fx.agg60 (.head _) (ex_len h)) Z<|.yv (.call Fx.call51 Z (fun W s => checkExpr_any H G e _ h he W s.agr)) Z<|.yv (.neq Z Z) Z<|.nt<|.cd Z (fun h5 => ?_) (fun h5 => ?_)
 ·try simp only [dt] at h5
  refine .sr<|.a Z Z<|.nt<|.rt<|.tR<|?_
  refine Sx.ret1 (.inl rfl) rfl (.tmp rfl) fun W s => ⟨?_,s.ext⟩
  first
   | (rw [if_neg (by omega)];rfl)
   | (rw [if_pos hck])
 try simp only [df] at h5
 have hck : checkE e = 0 := by simp at h5;omega
 obtain ⟨hf,hl⟩ := textE_good hck
 refine .sk<|.tN<|.sr<|.yv (.loadW Z Fx.agg60 (.head _) (ex_len h)) Z<|.yv (.call Fx.call52 Z (fun W s => text_any H G g e _ W h hf hl s.agr)) Z<|.a Z Z<|.nt<|.rt<|?_
 refine Sx.ret1 (.inl rfl) rfl (.tmp rfl) fun W s => ⟨?_,s.ext⟩
 first
  | (rw [if_neg (by omega)];rfl)
  | (rw [if_pos hck])
theorem eqSt {P : Program} {L : Sl} {H : Hp} {w0 : World} {bs : List Res} {d : Option Tmp} {ty : TypeId} {pos : String} {aft : Array Edge} {g : Option (Nat × Bool)} {x y : Operand} {T T' : TypeId} {a : Str} (hx : ev L x = some (strV a)) (hy : ev L y = some (strV a)) : Yl P L H w0 bs ⟨d,.binOp .eql T x y T',ty,pos,aft,g⟩ (.bool true) :=
 (Yl.eqS hx hy).cast (by rw [decide_eq_true rfl])
def awS : Sm := .mk 8 [] [] [(.mk 5 [120] 0 []),(.mk 1 [] 1 [])] [] [.mk 10 [] [] [] [] []]
def awF : Ft := ⟨[112],[⟨[102],true⟩],[],[⟨[99],[],[[⟨[104],[[120]],[awS]⟩]]⟩]⟩
def awT : Str := [102,108,101,101,116,32,112,32,123,10,32,32,102,108,97,103,32,102,32,61,32,116,114,117,101,59,10,32,32,99,111,109,112,111,110,101,110,116,32,99,32,123,10,32,32,32,32,111,110,32,104,40,120,41,32,123,10,32,32,32,32,32,32,115,116,111,114,101,32,120,32,61,32,49,32,101,108,115,101,32,123,10,32,32,32,32,32,32,32,32,115,116,111,112,59,10,32,32,32,32,32,32,125,10,32,32,32,32,125,10,32,32,125,10,125,10]
def awE : Ex := .mk 11 [] 0 [.mk 14 [] 0 [(.mk 5 [97] 0 []),(.mk 1 [] 1 [])],.mk 9 [] 0 [.mk 15 [] 0 [(.mk 5 [98] 0 []),(.mk 5 [99] 0 [])]]]
def awU : Str := [40,97,32,43,32,49,41,32,42,32,45,40,98,32,45,32,99,41]
theorem itoa1 : Lib.itoa 1 = [49] := by rw [Lib.itoa,if_neg (by decide)];exact Lib.decDigits_one (by decide)
theorem awF_check : checkF awF = 0 := by decide +kernel
theorem awF_ok : evH okH awF = true := by decide +kernel
theorem awE_check : checkE awE = 0 := by decide +kernel
theorem awE_depth : awE.depth ≤ 1000000 := by decide +kernel
theorem awE_text : awE.text = awU := by
 have h : Ex.text (.mk 1 [] 1 []) = [49] := by rw [text_mk,txt,if_pos rfl];exact itoa1
 have hs : Ex.texts [(.mk 5 [97] 0 []),(.mk 1 [] 1 [])] = [(7,[97]),(7,[49])] := by rw [Ex.texts,Ex.texts,Ex.texts,h];rfl
 rw [awE,Ex.text,Ex.texts,Ex.text,hs];decide +kernel
theorem awS_text : Sm.texts 3 [awS] = [32,32,32,32,32,32,115,116,111,114,101,32,120,32,61,32,49,32,101,108,115,101,32,123,10,32,32,32,32,32,32,32,32,115,116,111,112,59,10,32,32,32,32,32,32,125,10] := by
 have h : Ex.text (.mk 1 [] 1 []) = [49] := by rw [text_mk,txt,if_pos rfl];exact itoa1
 rw [awS,Sm.texts,stext_mk,List.map_cons,List.map_cons,h];decide +kernel
theorem awF_text : ftT awF = awT := by
 simp only [ftT,awF,List.map_cons,List.map_nil,cpT,vssT,vsT,if_true,hdsT,hdT]
 rw [show (2 : Nat) + 1 = 3 from rfl,awS_text];decide +kernel
set_option maxRecDepth 100000 in
theorem name_any (H : Hp) (l : Str) (w : World) (hA : Agr H w) : Calls Tryz.prog 21 #[strV l] w fun r w' => r = .returned (.agg [.int .u8 (5 : UInt8).toNat,strV l,.int .i64 (0 : Int64).toInt,.slice none 0 0].toArray) ∧ Ext w w' := by
 refine Sx.enter (H := H) Tryz.func21 rfl Tryz.ntmps21 rfl hA ?_
 refine .sr<|.al Fx.zero60 Z fun b2 => .ns<|.m Z Z<|.yv (.build Z (Fx.bld60_0_1 _ _)) Z<|.sW .head Z Z Fx.size60 (by simp [Value.oneCell',strV]) Z<|.nt<|.rt<|?_
 exact Sx.ret1 (.inl rfl) rfl (.cell rfl Fx.agg60 (.head _) rfl) fun W s => ⟨rfl,s.ext⟩
theorem check_aw {H : Hp} (G : Gl H) {cs : List Value} (h : Rep H (dFt .u8 awF) cs) (w : World) (hA : Agr H w) : Calls Tryz.prog 9 #[.agg cs.toArray] w fun r w' => r = .returned (.int .i64 0) ∧ Ext w w' :=
 (check_any H G awF cs h awF_ok w hA).mono fun _ _ ⟨he,hx⟩ => ⟨by rw [he,awF_check];rfl,hx⟩
theorem print_aw {H : Hp} (G : Gl H) (g : Gt H) {cs : List Value} (h : Rep H (dFt .u8 awF) cs) (w : World) (hA : Agr H w) : Calls Tryz.prog 13 #[.agg cs.toArray] w fun r w' => r = .returned (strV awT) ∧ Ext w w' :=
 (print_any H G g awF cs h awF_ok (fun _ => by rw [awF_text];decide) w hA).mono fun _ _ ⟨he,hx⟩ => ⟨by rw [he,if_pos awF_check,awF_text],hx⟩
theorem printE_aw {H : Hp} (G : Gl H) (g : Gt H) {cs : List Value} (h : Rep H (dEx .u8 awE) cs) (w : World) (hA : Agr H w) : Calls Tryz.prog 22 #[.agg cs.toArray] w fun r w' => r = .returned (strV awU) ∧ Ext w w' :=
 (printExpr_any H G g awE cs h awE_depth w hA).mono fun _ _ ⟨he,hx⟩ => ⟨by rw [he,if_pos awE_check,awE_text],hx⟩
set_option maxRecDepth 100000 in
theorem awake_any (H : Hp) (G : Gl H) (g : Gt H) (w : World) (hA : Agr H w) : Calls Tryz.prog 7 #[] w fun r w' => r = .returned (.bool true) ∧ Ext w w' := by
 refine Sx.enter (H := H) Tryz.func7 rfl Tryz.ntmps7 rfl hA ?_
 refine .sr<|.a Z Z<|.ns<|.yv (.build Z (Fx.bld65_0_1 _ _)) Z<|.bl Z (Fx.bsl36_1 _ _) Z fun b4 => .bl Z (Fx.bsl66_1 _) Z fun b5 => .yv (.call Fx.call21 Z (fun W s => name_any _ [120] W s.agr)) Z<|.yv (.build Z (Fx.bld60_0_2 _ _)) Z<|.bl Z (Fx.bsl58_2 _ _ _ _ _ _ _ _) Z fun b8 => .yv (.build Z (Fx.bld71_0 _)) Z<|.bl Z (Fx.bsl69_1 _ _ _ _ _ _) Z fun b10 => .yv (.build Z (Fx.bld71_0_3_5 _ _ _ _ _ _ _)) Z<|.bl Z (Fx.bsl69_1 _ _ _ _ _ _) Z fun b12 => .yv (.build Z (Fx.bld73_0_1_2 _ _ _ _ _ _ _)) Z<|.bl Z (Fx.bsl74_1 _ _ _) Z fun b14 => .yv (.build Z (Fx.bld76_0 _ _ _)) Z<|.bl Z (Fx.bsl77_1 _) Z fun b16 => .yv (.build Z (Fx.bld80_0_2 _ _ _ _)) Z<|.bl Z (Fx.bsl38_1 _ _ _) Z fun b18 => .yv (.build Z (Fx.bld40_0_1_3 _ _ _ _ _ _ _)) Z<|.al Fx.zero40 Z fun b1 => .sW .head Z Z Fx.size40 (by simp [Value.oneCell',strV]) Z<|.ns<|.yv (.call Fx.call21 Z (fun W s => name_any _ [97] W s.agr)) Z<|.yv (.build Z (Fx.bld60_0_2 _ _)) Z<|.bl Z (Fx.bsl58_2 _ _ _ _ _ _ _ _) Z fun b22 => .yv (.build Z (Fx.bld60_0_3 _ _ _ _)) Z<|.yv (.call Fx.call21 Z (fun W s => name_any _ [98] W s.agr)) Z<|.yv (.call Fx.call21 Z (fun W s => name_any _ [99] W s.agr)) Z<|.bl Z (Fx.bsl58_2 _ _ _ _ _ _ _ _) Z fun b26 => .yv (.build Z (Fx.bld60_0_3 _ _ _ _)) Z<|.bl Z (Fx.bsl58_1 _ _ _ _) Z fun b28 => .yv (.build Z (Fx.bld60_0_3 _ _ _ _)) Z<|.bl Z (Fx.bsl58_2 _ _ _ _ _ _ _ _) Z fun b30 => .yv (.build Z (Fx.bld60_0_3 _ _ _ _)) Z<|.al Fx.zero60 Z fun b2 => .sW .head Z Z Fx.size60 (by simp [Value.oneCell',strV]) Z<|?_
 refine At.pm [13,12,11,10,9,8,7,6,4,3,2,1,5,0] [_,_,_,_,_,_,_,_,_,_,_,_,_,_] rfl rfl ?_
 refine Sx.freezeBox fun H1 u1 m4 => ?_
 refine Sx.freezeBox fun H2 u2 m5 => ?_
 refine Sx.freezeBox fun H3 u3 m8 => ?_
 refine Sx.freezeBox fun H4 u4 m10 => ?_
 refine Sx.freezeBox fun H5 u5 m12 => ?_
 refine Sx.freezeBox fun H6 u6 m14 => ?_
 refine Sx.freezeBox fun H7 u7 m16 => ?_
 refine Sx.freezeBox fun H8 u8 m18 => ?_
 refine Sx.freezeBox fun H9 u9 m22 => ?_
 refine Sx.freezeBox fun H10 u10 m26 => ?_
 refine Sx.freezeBox fun H11 u11 m28 => ?_
 refine Sx.freezeBox fun H12 u12 m30 => ?_
 have v12 : Up H12 H12 := Up.refl _
 have v11 : Up H11 H12 := u12.up.trans v12
 have v10 : Up H10 H12 := u11.up.trans v11
 have v9 : Up H9 H12 := u10.up.trans v10
 have v8 : Up H8 H12 := u9.up.trans v9
 have v7 : Up H7 H12 := u8.up.trans v8
 have v6 : Up H6 H12 := u7.up.trans v7
 have v5 : Up H5 H12 := u6.up.trans v6
 have v4 : Up H4 H12 := u5.up.trans v5
 have v3 : Up H3 H12 := u4.up.trans v4
 have v2 : Up H2 H12 := u3.up.trans v3
 have v1 : Up H1 H12 := u2.up.trans v2
 have v0 : Up H H12 := u1.up.trans v1
 have rF := ft_shut (k := .u8) (x := awF) (by decide) (Rep.mk (n := 1) (c := 1) (m4.up v1) (.single (fg_shut (by decide)) rfl) rfl (Nat.le_refl _) (by decide)) (Rep.empty (p := none) (c := 0) (by decide)) (Rep.mk (n := 1) (c := 1) (m18.up v8) (.single (cp_shut (x := ⟨[99],[],[[⟨[104],[[120]],[awS]⟩]]⟩) (by decide) (Rep.empty (p := none) (c := 0) (by decide)) (Rep.mk (n := 1) (c := 1) (m16.up v7) (.single (Rep.mk (n := 1) (c := 1) (m14.up v6) (.single (hd_shut (x := ⟨[104],[[120]],[awS]⟩) (by decide) (Rep.mk (n := 1) (c := 1) (m5.up v2) (.single (str_shut (by decide)) rfl) rfl (Nat.le_refl _) (by decide)) (Rep.mk (n := 1) (c := 1) (m12.up v5) (.single (sm_shut (kd := 8) (nm := []) (hd := []) (th := []) (by decide) (by decide) (Rep.mk (n := 2) (c := 2) (m8.up v3) (RepZ.app (RepZ.single (ex_shut (op := 5) (nm := [120]) (n := 0) (args := []) (by decide) (Rep.empty (p := none) (c := 0) (by decide))) rfl) (RepZ.single (ex_shut (op := 1) (nm := []) (n := 1) (args := []) (by decide) (Rep.empty (p := none) (c := 0) (by decide))) rfl)) rfl (Nat.le_refl _) (by decide)) (Rep.empty (p := none) (c := 0) (by decide)) (Rep.mk (n := 1) (c := 1) (m10.up v4) (.single (sm_shut (kd := 10) (nm := []) (hd := []) (ex := []) (th := []) (el := []) (by decide) (by decide) (Rep.empty (p := none) (c := 0) (by decide)) (Rep.empty (p := none) (c := 0) (by decide)) (Rep.empty (p := none) (c := 0) (by decide))) rfl) rfl (Nat.le_refl _) (by decide))) rfl) rfl (Nat.le_refl _) (by decide))) rfl) rfl (Nat.le_refl _) (by decide)) rfl) rfl (Nat.le_refl _) (by decide))) rfl) rfl (Nat.le_refl _) (by decide))
 have rE : Rep H12 (dEx .u8 awE) _ := (ex_shut (op := 11) (nm := []) (n := 0) (args := [.mk 14 [] 0 [.mk 5 [97] 0 [],.mk 1 [] 1 []],.mk 9 [] 0 [.mk 15 [] 0 [.mk 5 [98] 0 [],.mk 5 [99] 0 []]]]) (by decide) (Rep.mk (n := 2) (c := 2) (m30.up v12) (RepZ.app (RepZ.single (ex_shut (op := 14) (nm := []) (n := 0) (args := [.mk 5 [97] 0 [],.mk 1 [] 1 []]) (by decide) (Rep.mk (n := 2) (c := 2) (m22.up v9) (RepZ.app (RepZ.single (ex_shut (op := 5) (nm := [97]) (n := 0) (args := []) (by decide) (Rep.empty (p := none) (c := 0) (by decide))) rfl) (RepZ.single (ex_shut (op := 1) (nm := []) (n := 1) (args := []) (by decide) (Rep.empty (p := none) (c := 0) (by decide))) rfl)) rfl (Nat.le_refl _) (by decide))) rfl) (RepZ.single (ex_shut (op := 9) (nm := []) (n := 0) (args := [.mk 15 [] 0 [.mk 5 [98] 0 [],.mk 5 [99] 0 []]]) (by decide) (Rep.mk (n := 1) (c := 1) (m28.up v11) (.single (ex_shut (op := 15) (nm := []) (n := 0) (args := [.mk 5 [98] 0 [],.mk 5 [99] 0 []]) (by decide) (Rep.mk (n := 2) (c := 2) (m26.up v10) (RepZ.app (RepZ.single (ex_shut (op := 5) (nm := [98]) (n := 0) (args := []) (by decide) (Rep.empty (p := none) (c := 0) (by decide))) rfl) (RepZ.single (ex_shut (op := 5) (nm := [99]) (n := 0) (args := []) (by decide) (Rep.empty (p := none) (c := 0) (by decide))) rfl)) rfl (Nat.le_refl _) (by decide))) rfl) rfl (Nat.le_refl _) (by decide))) rfl)) rfl (Nat.le_refl _) (by decide)))
 refine .ns<|.yv (.loadW Z Fx.agg40 (.head _) Z) Z<|.yv (.call Fx.call9 Z (fun W s => check_aw (G.up v0) rF W s.agr)) Z<|.yv (.eql Z Z) Z<|.m Z Z<|.gd Z Z<|.yv (.loadW Z Fx.agg40 (.head _) Z) Z<|.gd Z Z<|.yv (.call Fx.call13 Z (fun W s => print_aw (G.up v0) (g.up v0) rF W s.agr)) Z<|.gd Z Z<|.yv (eqSt (a := awT) Z Z) Z<|.yv (.pickT Z Z) Z<|.m Z Z<|.gd Z Z<|.yv (.loadW Z Fx.agg60 (.tail _<|.head _) Z) Z<|.gd Z Z<|.yv (.call Fx.call22 Z (fun W s => printE_aw (G.up v0) (g.up v0) rE W s.agr)) Z<|.gd Z Z<|.yv (eqSt (a := awU) Z Z) Z<|.yv (.pickT Z Z) Z<|.a Z Z<|.nt<|.rt<|?_
 exact Sx.ret1 (.inl rfl) rfl (.tmp rfl) fun W s => ⟨rfl,s.ext⟩
set_option maxRecDepth 100000 in
theorem word_any (H : Hp) (n : UInt8) (w : World) (hA : Agr H w) : Calls Tryz.prog 53 #[.int .u8 n.toNat] w fun r w' => r = .returned (strV (wordR n)) ∧ Ext w w' := by
 refine Sx.enter (H := H) Tryz.func53 rfl Tryz.ntmps53 rfl hA ?_
 refine .sr<|.a Z Z<|.ns<|.bl Z (Fx.bsl66_11 _ _ _ _ _ _ _ _ _ _ _) Z fun b3 => .m Z Z<|.yv (.rem Z Z (by decide) (c := ((n.toNat % 11 : Nat) : Int)) (by rw [Int.tmod_eq_emod_of_nonneg (by omega)];omega)) Z<|.yv (.indexSl Fx.sl66 Z Z (i := n.toNat % 11) Z (Nat.mod_lt _ (by omega)) (q := n.toNat % 11) (by omega)) Z<|.yv (.load (v := strV (wordR n)) Z Fx.agg9 (.head _) (strs_at (es := wordsR) (Nat.mod_lt _ (by show 0 < 11;omega)))) Z<|.a Z Z<|.nt<|.rt<|?_
 exact Sx.ret1 (.inl rfl) rfl (.tmp rfl) fun W s => ⟨rfl,s.ext⟩
set_option maxRecDepth 100000 in
theorem arity_any (H : Hp) (k : Nat) (w : World) (hA : Agr H w) : Calls Tryz.prog 86 #[.int .i64 (k : Nat)] w fun r w' => r = .returned (.int .i64 (arR k)) ∧ Ext w w' := by
 refine Sx.enter (H := H) Tryz.func86 rfl Tryz.ntmps86 rfl hA ?_
 refine .sr<|.a Z Z<|.nt<|.sq<|.bk<|.sr<|.m Z Z<|.yv (.lss Z Z) Z<|.m Z Z<|.b2 (fun h6 => ?_) (fun h6 => ?_)
 ·try simp only [dt] at h6
  refine .gF Z Z Z Z<|.gF Z Z Z Z<|.yv (.pickT Z Z) Z<|.a Z Z<|.nt<|.cT Z<|.sr<|.a Z Z<|.nt<|.rt<|.bR<|.tR<|?_
  refine Sx.ret1 (.inl rfl) rfl (.tmp rfl) fun W s => ⟨?_,s.ext⟩
  first
   | (rw [arR];simp_all <;> omega)
   | (rw [arR];simp_all;omega)
   | (congr 1;congr 1;rw [arR];simp_all <;> omega)
 try simp only [df] at h6
 refine .gd Z Z<|.yv (.move Z) Z<|.gd Z Z<|.yv (.gtr Z Z) Z<|.yv (.pickF Z Z) Z<|.a Z Z<|.nt<|.cd Z (fun h3 => ?_) (fun h3 => ?_)
 ·skip
  refine .sr<|.a Z Z<|.nt<|.rt<|.bR<|.tR<|?_
  refine Sx.ret1 (.inl rfl) rfl (.tmp rfl) fun W s => ⟨?_,s.ext⟩
  first
   | (rw [arR];simp_all <;> omega)
   | (rw [arR];simp_all;omega)
   | (congr 1;congr 1;rw [arR];simp_all <;> omega)
 skip
 refine .sr<|.m Z Z<|.yv (.leq Z Z) Z<|.m Z Z<|.b2 (fun h13 => ?_) (fun h13 => ?_)
 ·try simp only [dt] at h13
  refine .gF Z Z Z Z<|.gF Z Z Z Z<|.yv (.pickT Z Z) Z<|.a Z Z<|.nt<|.cT Z<|.sr<|.a Z Z<|.nt<|.rt<|.bR<|.tR<|?_
  refine Sx.ret1 (.inl rfl) rfl (.tmp rfl) fun W s => ⟨?_,s.ext⟩
  first
   | (rw [arR];simp_all <;> omega)
   | (rw [arR];simp_all;omega)
   | (congr 1;congr 1;rw [arR];simp_all <;> omega)
 try simp only [df] at h13
 refine .gd Z Z<|.yv (.move Z) Z<|.gd Z Z<|.yv (.eql Z Z) Z<|.yv (.pickF Z Z) Z<|.a Z Z<|.nt<|.cd Z (fun h10 => ?_) (fun h10 => ?_)
 ·skip
  refine .sr<|.a Z Z<|.nt<|.rt<|.bR<|.tR<|?_
  refine Sx.ret1 (.inl rfl) rfl (.tmp rfl) fun W s => ⟨?_,s.ext⟩
  first
   | (rw [arR];simp_all <;> omega)
   | (rw [arR];simp_all;omega)
   | (congr 1;congr 1;rw [arR];simp_all <;> omega)
 skip
 refine .sr<|.m Z Z<|.yv (.eql Z Z) Z<|.m Z Z<|.b2 (fun h20 => ?_) (fun h20 => ?_)
 ·try simp only [dt] at h20
  refine .gF Z Z Z Z<|.gF Z Z Z Z<|.yv (.pickT Z Z) Z<|.m Z Z<|.gF Z Z Z Z<|.gF Z Z Z Z<|.yv (.pickT Z Z) Z<|.m Z Z<|.gF Z Z Z Z<|.gF Z Z Z Z<|.yv (.pickT Z Z) Z<|.a Z Z<|.nt<|.cT Z<|.sr<|.a Z Z<|.nt<|.rt<|.bR<|.tR<|?_
  refine Sx.ret1 (.inl rfl) rfl (.tmp rfl) fun W s => ⟨?_,s.ext⟩
  first
   | (rw [arR];simp_all <;> omega)
   | (rw [arR];simp_all;omega)
   | (congr 1;congr 1;rw [arR];simp_all <;> omega)
 try simp only [df] at h20
 refine .gd Z Z<|.yv (.move Z) Z<|.gd Z Z<|.yv (.eql Z Z) Z<|.yv (.pickF Z Z) Z<|.m Z Z<|.b2 (fun h24 => ?_) (fun h24 => ?_)
 ·try simp only [dt] at h24
  refine .gF Z Z Z Z<|.gF Z Z Z Z<|.yv (.pickT Z Z) Z<|.m Z Z<|.gF Z Z Z Z<|.gF Z Z Z Z<|.yv (.pickT Z Z) Z<|.a Z Z<|.nt<|.cT Z<|.sr<|.a Z Z<|.nt<|.rt<|.bR<|.tR<|?_
  refine Sx.ret1 (.inl rfl) rfl (.tmp rfl) fun W s => ⟨?_,s.ext⟩
  first
   | (rw [arR];simp_all <;> omega)
   | (rw [arR];simp_all;omega)
   | (congr 1;congr 1;rw [arR];simp_all <;> omega)
 try simp only [df] at h24
 refine .gd Z Z<|.yv (.move Z) Z<|.gd Z Z<|.yv (.eql Z Z) Z<|.yv (.pickF Z Z) Z<|.m Z Z<|.b2 (fun h28 => ?_) (fun h28 => ?_)
 ·try simp only [dt] at h28
  refine .gF Z Z Z Z<|.gF Z Z Z Z<|.yv (.pickT Z Z) Z<|.a Z Z<|.nt<|.cT Z<|.sr<|.a Z Z<|.nt<|.rt<|.bR<|.tR<|?_
  refine Sx.ret1 (.inl rfl) rfl (.tmp rfl) fun W s => ⟨?_,s.ext⟩
  first
   | (rw [arR];simp_all <;> omega)
   | (rw [arR];simp_all;omega)
   | (congr 1;congr 1;rw [arR];simp_all <;> omega)
 try simp only [df] at h28
 refine .gd Z Z<|.yv (.move Z) Z<|.gd Z Z<|.yv (.eql Z Z) Z<|.yv (.pickF Z Z) Z<|.a Z Z<|.nt<|.cd Z (fun h17 => ?_) (fun h17 => ?_)
 ·skip
  refine .sr<|.a Z Z<|.nt<|.rt<|.bR<|.tR<|?_
  refine Sx.ret1 (.inl rfl) rfl (.tmp rfl) fun W s => ⟨?_,s.ext⟩
  first
   | (rw [arR];simp_all <;> omega)
   | (rw [arR];simp_all;omega)
   | (congr 1;congr 1;rw [arR];simp_all <;> omega)
 skip
 refine .sk<|.bN<|.tN<|.sr<|.a Z Z<|.nt<|.rt<|?_
 refine Sx.ret1 (.inl rfl) rfl (.tmp rfl) fun W s => ⟨?_,s.ext⟩
 first
  | (rw [arR];simp_all <;> omega)
  | (rw [arR];simp_all;omega)
  | (congr 1;congr 1;rw [arR];simp_all <;> omega)
def ExprOf (e : Ex) : Prop := Ex.all narrow e = true → ∀ (H : Hp) (cs : List Value) (w : World),Rep H (dEx .i64 e) cs → Agr H w →
 Calls Tryz.prog 19 #[.agg cs.toArray] w fun r w' => ∃ x H',Rep H' (dEx .u8 e) x ∧ r = .returned (.agg x.toArray) ∧ Grow H w H' w'
set_option maxRecDepth 100000 in
theorem expr_any (e : Ex) : ExprOf e := by
 induction e using Ex.ind with | _ op nm nn args ih
 intro hnr H cs w h hA
 rw [all_mk,Bool.and_eq_true,narrow_mk,decide_eq_true_eq] at hnr
 obtain ⟨p,c,rfl,hs,hnm⟩ := ex_open h
 have hcap := hs.cap
 have hn3 := hnr.1
 refine Sx.enter (H := H) Tryz.func19 rfl Tryz.ntmps19 rfl hA ?_
 refine .sr<|.bx Z Z Z fun b1 => .al Fx.zero60 Z fun b2 => ?_
 refine Sx.row0 60 4 ?_
 refine .ns<|.yv (.fieldAddr Z Fx.field51_0) Z<|.yv (.load Z Fx.agg3 (.tail _<|.tail _<|.head _) Z) Z<|.yv (.conv Z Fx.int3 Fx.int57 (c := (op.toNat : Nat)) (by have := op.toNat_lt;simp only [IntKind.wrap,IntKind.signed,IntKind.bits];simp;omega)) Z<|.yv (.fieldAddr Z Fx.field51_1) Z<|.yv (.load Z Fx.agg9 (.tail _<|.tail _<|.head _) Z) Z<|.yv (.fieldAddr Z Fx.field51_2) Z<|.yv (.load Z Fx.agg2 (.tail _<|.tail _<|.head _) Z) Z<|.yv (.build Z (Fx.bld60_0_1_2 _ _ _)) Z<|.al Fx.zero60 Z fun b3 => .sW .head Z Z Fx.size60 (by simp [Value.oneCell',strV]) Z<|.nt<|.sq<|.sr<|.yv (.fieldAddr Z Fx.field51_3) Z<|.yv (.load Z Fx.agg49 (.tail _<|.tail _<|.tail _<|.head _) Z) Z<|.yv (.lenSl Fx.sl49 Z) Z<|.m Z Z<|.nt<|.bk<|.lp (X := Nat × Hp × Value × List Value) [(2,_),(3,_),(15,_),(16,_)] ⟨rfl,rfl,rfl,rfl,trivial⟩ [_,_] (fun z => [(17,.int .i64 (z.1 : Nat))]) (fun z => z.2.1) (fun z => [.box b3 [.int .u8 op.toNat,strV nm,.int .i64 nn.toInt,z.2.2.1] 60,.row 60 4 z.2.2.1 z.1 z.2.2.2]) (fun z => z.1 ≤ args.length ∧ HUp w H z.2.1 ∧ RepZ z.2.1 4 ((args.take z.1).map (dEx .u8)) z.2.2.2) (fun z => args.length - z.1) (0,H,.slice none 0 0,[]) (fun _ s => s) ⟨rfl,trivial⟩ ⟨by simp,.refl,RepZ.nil⟩ fun z hC => ?_
 obtain ⟨k,H1,r,xs⟩ := z
 dsimp only at hC ⊢
 obtain ⟨hk0,u1,hz⟩ := hC
 refine .sr<|.yv (.lss Z Z) Z<|.nt<|.sq<|.cd Z (fun h18 => ?_) (fun h18 => ?_)
 ·try simp only [dt] at h18
  have hk : k < args.length := by omega
  obtain ⟨bE,oE,cE,hpE,rE,lE,mE⟩ := (hs.up u1.up).elem (map_at hk)
  cases hpE
  have hnr1 := lalls_at hk hnr.2
  refine .sk<|.tN<|.sq<|.bk<|.sr<|.yv (.indexSl Fx.sl49 Z Z Z (by omega) (q := oE + k * 4) Z) Z<|.yv (.loadMW Z Fx.agg51 mE lE) Z<|.al Fx.zero51 Z fun b5 => .sV .head Z Z Fx.size51 lE rE.one Z<|.nt<|.fl (trip := [(_,_,_),(_,_,_),(_,_,_),(_,_,_),(_,_,_)]) 5 [(0,0),(1,0),(2,0),(3,1),(4,1)] (by kernel_rfl) (by kernel_rfl) Z<|.yv (.fieldAddr Z Fx.field60_3) Z<|.yv (.load Z Fx.agg58 (.tail _<|.head _) Z) Z<|.yv (.loadW Z Fx.agg51 (.head _) lE) Z<|.ct (X := List Value) Fx.call19 Z (fun W s => ih _ (List.getElem_mem hk) hnr1 H1 cE W rE s.agr) Z fun x2 H2 hc2 u2 => ?_
  generalize hx : args[k] = x at hc2
  obtain ⟨op2,nm2,n2,args2⟩ := x
  obtain ⟨p2,c2,rfl,hs2,hnm2⟩ := ex_open hc2
  refine .bl Z (Fx.bsl58_1 _ _ _ _) Z fun b25 => .fn (tl := [_,_,_]) Z<|.ap (news := [.int .u8 op2.toNat,strV nm2,.int .i64 n2.toInt,.slice p2 args2.length c2]) Fx.row58 Z (fun _ => (.tail<|.tail<|.tail<|.head)) Z (.box (.head _) z0) Z (by simp [Value.oneCell',strV]) (by simp [maxLen];omega) (by omega) Z fun r26 _ => ?_
  refine At.ra (.tail _ (.tail _ (.tail _ (.head _)))) fun p26 c26 e26 => ?_
  exact .yv (.fieldAddr Z Fx.field60_3) Z<|.st (.tail<|.tail<|.head) Z Z Fx.size58 (by rw [e26];rfl) (nb Z) Z<|.nl<|.bN<|.tN<|.rg<|.yv (.add Z Z (w6 (by omega))) Z<|.m Z Z<|.nt<|.ag (x := (k,H1,r,xs)) (k + 1,H2,r26,xs ++ [.int .u8 op2.toNat,strV nm2,.int .i64 n2.toInt,.slice p2 args2.length c2]) ⟨rfl,trivial⟩ ⟨rfl,rfl,rfl,rfl,trivial⟩ (fun _ s => (s.pick [2,3,4,5] _ Z Z)) ⟨by dsimp only;omega,u1.trans u2,by dsimp only;rw [take_snoc hk,hx,List.map_append];exact (hz.up u2.up).snoc hc2 Z⟩ (by dsimp only;omega)
 try simp only [df] at h18
 obtain rfl : k = args.length := by omega
 rw [List.take_length] at hz
 refine At.ra (.tail _ (.head _)) fun p26 c26 e26 => ?_
 subst e26
 refine .ex<|.tE<|.tE<|.bE<|.tN<|.sr<|.yv (.loadW Z Fx.agg60 (.head _) Z) Z<|.sW (.tail<|.tail<|.head) Z Z Fx.size60 (by simp [Value.oneCell',strV]) Z<|.nt<|.rt<|?_
 refine At.pm [1,2] [_,_] rfl rfl ?_
 refine Sx.freezeSeq (ds := args.map (dEx .u8)) (by simp) hz fun H3 p3 c3 u3 hr3 hs3 => ?_
 refine Sx.ret1 (.inl rfl) rfl (.cell rfl Fx.agg60 (.head _) rfl) fun W s => ⟨_,H3,ex_shut hnm hs3,rfl,(u1.trans u3).grow s⟩
def goodE (d : Nat) (e : Ex) : Prop := e.depth + d ≤ 32 ∧ Ex.all narrow e = true
def goodEs (d : Nat) (l : List Ex) : Prop := Ex.deeps l + (d + 1) ≤ 32 ∧ Ex.alls narrow l = true
theorem goodE_leaf {d : Nat} {op : UInt8} {nm : Str} {n : Int64} (h : d ≤ 31) : goodE d (.mk op nm n []) := ⟨by rw [depth_mk];simp only [Ex.deeps];omega,by rw [all_mk,narrow_mk];rfl⟩
theorem goodE_mk {d : Nat} {op : UInt8} {nm : Str} {n : Int64} {l : List Ex} : goodE d (.mk op nm n l) ↔ l.length ≤ 3 ∧ goodEs d l := by
 simp only [goodE,goodEs,depth_mk,all_mk,narrow_mk,Bool.and_eq_true,decide_eq_true_eq]
 constructor
 ·rintro ⟨h1,h2,h3⟩;exact ⟨h2,by omega,h3⟩
 ·rintro ⟨h1,h2,h3⟩;exact ⟨by omega,h1,h3⟩
theorem goodEs_nil (d : Nat) (h : d + 1 ≤ 32 := by omega) : goodEs d [] := ⟨by simp only [Ex.deeps];omega,rfl⟩
theorem goodEs_snoc {d : Nat} {l : List Ex} {e : Ex} (h : goodEs d l) (k : goodE (d + 1) e) : goodEs d (l ++ [e]) := by
 obtain ⟨h1,h2⟩ := h
 obtain ⟨k1,k2⟩ := k
 refine ⟨?_,?_⟩
 ·rw [deeps_app];simp only [Ex.deeps];omega
 ·rw [alls_app,h2];simp [Ex.alls,k2]
set_option maxRecDepth 100000 in
theorem build_any : ∀ (f d : Nat),d + f = 31 → ∀ (H : Hp) (l : List Nd) (v : Value) (w : World),Rep H (.seq 5 (l.map dNd)) [v] → Agr H w →
 Calls Tryz.prog 49 #[v,.int .i64 (d : Nat)] w fun r w' => ∃ (y : List Value × Value) (H' : Hp),(∃ (e : Ex) (rest : List Nd),Rep H' (dEx .i64 e) y.1 ∧ goodE d e ∧ Rep H' (.seq 5 (rest.map dNd)) [y.2]) ∧ r = .returned (.tuple #[.agg y.1.toArray,y.2]) ∧ Grow H w H' w' := by
 intro f
 induction f using Nat.strongRecOn with
 | _ f ih =>
  intro d hd H l v w h hA
  obtain ⟨p,c,e,_⟩ := h.sl
  simp only [List.cons.injEq,and_true] at e
  subst e
  obtain ⟨n,hn⟩ : ∃ n,n = (l.map dNd).length := ⟨_,rfl⟩
  rw [← hn] at h ⊢
  have hnl : n = l.length := by simpa using hn
  have hcap := h.cap
  refine Sx.enter (H := H) Tryz.func49 rfl Tryz.ntmps49 rfl hA ?_
  refine .sr<|.al Fx.zero51 Z fun b4 => .a Z Z<|.nt<|.sq<|.sr<|.m Z Z<|.yv (.lenSl Fx.sl53 Z) Z<|.yv (.eql Z Z) Z<|.m Z Z<|.b2 (fun h15 => ?_) (fun h15 => ?_)
  ·try simp only [dt] at h15
   refine .gF Z Z Z Z<|.gF Z Z Z Z<|.yv (.pickT Z Z) Z<|.nt<|.cT Z<|.sr<|.yv (.build Z (Fx.bld51_0 _)) Z<|.m Z Z<|.sW .head Z Z Fx.size51 (by simp [Value.oneCell',strV,cNd]) Z<|.a Z Z<|.nt<|.rt<|.tR<|?_
   exact Sx.retN (.inl rfl) rfl (.cons (.cell rfl Fx.agg51 (.head _) rfl) (.cons (.tmp rfl) .nil)) rfl fun W s => ⟨(_,_),H,⟨.mk 1 [] 0 [],l,ex_shut (by decide) (Rep.empty (by decide)),goodE_leaf (by omega),h⟩,rfl,.pure hA s.ext⟩
  try simp only [df] at h15
  refine .gd Z Z<|.yv (.move Z) Z<|.gd Z Z<|.yv (.gtr Z Z) Z<|.yv (.pickF Z Z) Z<|.nt<|.cd Z (fun h18 => ?_) (fun h18 => ?_)
  ·try simp only [dt] at h18
   refine .sr<|.yv (.build Z (Fx.bld51_0 _)) Z<|.m Z Z<|.sW .head Z Z Fx.size51 (by simp [Value.oneCell',strV,cNd]) Z<|.a Z Z<|.nt<|.rt<|.tR<|?_
   exact Sx.retN (.inl rfl) rfl (.cons (.cell rfl Fx.agg51 (.head _) rfl) (.cons (.tmp rfl) .nil)) rfl fun W s => ⟨(_,_),H,⟨.mk 1 [] 0 [],l,ex_shut (by decide) (Rep.empty (by decide)),goodE_leaf (by omega),h⟩,rfl,.pure hA s.ext⟩
  try simp only [df] at h18
  have hn0 : 0 < n := by omega
  obtain ⟨bE,oE,cE,hpE,rE,lE,mE⟩ := h.elem (map_at (f := dNd) (show 0 < l.length by omega))
  subst hpE
  generalize hx : l[0] = x at rE
  obtain rfl := nd_open rE
  obtain ⟨op,hop⟩ : ∃ op : UInt8,op.toNat = x.op.toNat % 24 := ⟨UInt8.ofNat (x.op.toNat % 24),by simp [UInt8.toNat_ofNat'];omega⟩
  obtain ⟨m0,hm0,hm2⟩ : ∃ m0 : Nat,max (arR op.toNat) 0 = (m0 : Int) ∧ m0 ≤ 2 := ⟨(max (arR op.toNat) 0).toNat,by have := arR_bnd op.toNat;omega,by have := arR_bnd op.toNat;omega⟩
  refine .sk<|.tN<|.sr<|.m Z Z<|.yv (.indexSl Fx.sl53 Z Z (i := 0) Z (by omega) (q := oE + 0 * 5) (by omega)) Z<|.yv (.loadMW Z Fx.agg173 mE Z) Z<|.al Fx.zero173 Z fun b6 => .sW .head Z Z Fx.size173 (by simp [Value.oneCell',strV,cNd]) Z<|.ns<|.m Z Z<|.yv (.cutLo Fx.sl53 Z Z (lo := 1) Z (by omega) h.len.2.1) Z<|.a Z Z<|.ns<|.yv (.fieldAddr Z Fx.field173_0) Z<|.yv (.load Z Fx.agg5 (.head _) Z) Z<|.yv (.rem Z Z (by decide) (c := ((x.op.toNat % 24 : Nat) : Int)) (by rw [Int.tmod_eq_emod_of_nonneg (by omega)];omega)) Z<|.yv (.conv Z Fx.int5 Fx.int3 (c := ((op.toNat : Nat) : Int)) ((w6 (by omega)).trans (by rw [hop]))) Z<|.yv (.fieldAddr Z Fx.field173_4) Z<|.yv (.load Z Fx.agg2 (.head _) Z) Z<|.yv (.build Z (Fx.bld51_0_2 _ _)) Z<|.al Fx.zero51 Z fun b7 => .sW .head Z Z Fx.size51 (by simp [Value.oneCell',strV,cNd]) Z<|.ns<|.yv (.fieldAddr Z Fx.field51_0) Z<|.yv (.load Z Fx.agg3 (.head _) Z) Z<|.yv (.call Fx.call86 Z (fun W s => arity_any H op.toNat W s.agr)) Z<|.yv (.max2 Z Z (c := ((m0 : Nat) : Int)) hm0) Z<|.a Z Z<|.nt<|.cu (X := Str) [(0,_),(1,_),(4,_),(6,_),(7,_),(8,_)] ⟨rfl,rfl,rfl,rfl,rfl,rfl,trivial⟩ (fun nm => []) (fun nm => H) (fun nm => [.box b7 [.int .i64 op.toNat,strV nm,.int .i64 (x.n).toInt,.slice none 0 0] 51,.box b6 (cNd x) 173,.box b4 [.int .i64 0,.string ⟨#[]⟩,.int .i64 0,.slice none 0 0] 51]) (fun nm => nm.length ≤ 13) ?_ fun nm hC => ?_
  ·
   refine .sr<|.yv (.fieldAddr Z Fx.field51_0) Z<|.yv (.load Z Fx.agg3 (.head _) Z) Z<|.yv (.geq Z Z) Z<|.m Z Z<|.b2 (fun h40 => ?_) (fun h40 => ?_)
   ·try simp only [dt] at h40
    refine .gd Z Z<|.yv (.fieldAddr Z Fx.field51_0) Z<|.gd Z Z<|.yv (.load Z Fx.agg3 (.head _) Z) Z<|.gd Z Z<|.yv (.leq Z Z) Z<|.yv (.pickT Z Z) Z<|.nt<|.cd Z (fun h44 => ?_) (fun h44 => ?_)
    ·skip
     exact .rg<|.yv (.fieldAddr Z Fx.field173_1) Z<|.yv (.load Z Fx.agg5 (.tail _<|.head _) Z) Z<|.yv (.call Fx.call53 Z (fun W s => word_any H x.nm W s.agr)) Z<|.yv (.fieldAddr Z Fx.field51_1) Z<|.st .head Z Z Fx.size9 Z (nb Z) Z<|.nt<|.me _ trivial ⟨rfl,rfl,rfl,rfl,rfl,rfl,trivial⟩ (fun _ s => s) (by first | exact word_len _ | decide)
    skip
    exact .sk<|.tN<|.me _ trivial ⟨rfl,rfl,rfl,rfl,rfl,rfl,trivial⟩ (fun _ s => s) (by first | exact word_len _ | decide)
   try simp only [df] at h40
   exact .gF Z Z Z Z<|.gF Z Z Z Z<|.gF Z Z Z Z<|.yv (.pickF Z Z) Z<|.nt<|.cF Z<|.sk<|.tN<|.me _ trivial ⟨rfl,rfl,rfl,rfl,rfl,rfl,trivial⟩ (fun _ s => s) (by first | exact word_len _ | decide)
  have hnm := hC
  refine .cu (X := Int64) [(0,_),(1,_),(4,_),(6,_),(7,_),(8,_)] ⟨rfl,rfl,rfl,rfl,rfl,rfl,trivial⟩ (fun nn => []) (fun nn => H) (fun nn => [.box b7 [.int .i64 op.toNat,strV nm,.int .i64 (nn).toInt,.slice none 0 0] 51,.box b6 (cNd x) 173,.box b4 [.int .i64 0,.string ⟨#[]⟩,.int .i64 0,.slice none 0 0] 51]) (fun nn => True) ?_ fun nn hC => ?_
  ·
   refine .sr<|.yv (.fieldAddr Z Fx.field51_0) Z<|.yv (.load Z Fx.agg3 (.head _) Z) Z<|.yv (.neq Z Z) Z<|.nt<|.cd Z (fun h51 => ?_) (fun h51 => ?_)
   ·skip
    exact .rg<|.yv (.fieldAddr Z Fx.field51_2) Z<|.st .head Z Z Fx.size2 Z (nb Z) Z<|.nt<|.me 0 trivial ⟨rfl,rfl,rfl,rfl,rfl,rfl,trivial⟩ (fun _ s => s) trivial
   skip
   exact .sk<|.tN<|.me x.n trivial ⟨rfl,rfl,rfl,rfl,rfl,rfl,trivial⟩ (fun _ s => s) trivial
  refine .cu (X := Nat × Str × Int64) [(0,_),(1,_),(4,_),(7,_)] ⟨rfl,rfl,rfl,rfl,trivial⟩ (fun z => [(8,.int .i64 (z.1 : Nat))]) (fun z => H) (fun z => [.box b7 [.int .i64 op.toNat,strV z.2.1,.int .i64 (z.2.2).toInt,.slice none 0 0] 51,.box b6 (cNd x) 173,.box b4 [.int .i64 0,.string ⟨#[]⟩,.int .i64 0,.slice none 0 0] 51]) (fun z => z.1 ≤ 3 ∧ z.2.1.length ≤ 13) ?_ fun z hC => ?_
  ·
   refine .sr<|.yv (.fieldAddr Z Fx.field173_3) Z<|.yv (.load Z Fx.agg4 (.tail _<|.head _) Z) Z<|.nt<|.cd Z (fun h54 => ?_) (fun h54 => ?_)
   ·skip
    refine .sr<|.yv (.fieldAddr Z Fx.field173_2) Z<|.yv (.load Z Fx.agg5 (.tail _<|.head _) Z) Z<|.yv (.rem Z Z (by decide) (c := ((x.ct.toNat % 4 : Nat) : Int)) (by rw [Int.tmod_eq_emod_of_nonneg (by omega)];omega)) Z<|.yv (.conv Z Fx.int5 Fx.int3 (c := ((x.ct.toNat % 4 : Nat) : Int)) (w6 (by omega))) Z<|.a Z Z<|.ns<|.yv (.fieldAddr Z Fx.field173_2) Z<|.yv (.load Z Fx.agg5 (.tail _<|.head _) Z) Z<|.yv (.rem Z Z (by decide) (c := ((x.ct.toNat % 5 : Nat) : Int)) (by rw [Int.tmod_eq_emod_of_nonneg (by omega)];omega)) Z<|.yv (.eql Z Z) Z<|.nt<|.cd Z (fun h62 => ?_) (fun h62 => ?_)
    ·skip
     refine .ar 9 #[false,false,false,false,false,false,false,false,false] (by kernel_rfl) Z Z<|.an 0 [3] (by kernel_rfl) ⟨?_,?_,trivial⟩
     ·
      refine .ao #[true,false,false,false,false,false,false,false,false] Z Z<|.yv (.fieldAddr Z Fx.field173_1) Z<|.nx<|.an 1 [3] (by kernel_rfl) ⟨?_,?_,trivial⟩
      ·
       refine .ao #[true,true,false,false,false,false,false,false,false] Z Z<|.yv (.load Z Fx.agg5 (.tail _<|.head _) Z) Z<|.nx<|.an 2 [3] (by kernel_rfl) ⟨?_,?_,trivial⟩
       ·
        refine .ao #[true,true,true,false,false,false,false,false,false] Z Z<|.yv (.call Fx.call53 Z (fun W s => word_any H x.nm W s.agr)) Z<|.nx<|.an 3 [5] (by kernel_rfl) ⟨?_,?_,trivial⟩
        ·
         refine .ao #[true,true,true,true,false,false,false,false,false] Z Z<|.yv (.fieldAddr Z Fx.field173_4) Z<|.nx<|.an 4 [5] (by kernel_rfl) ⟨?_,?_,trivial⟩
         ·
          refine .ao #[true,true,true,true,true,false,false,false,false] Z Z<|.yv (.load Z Fx.agg2 (.tail _<|.head _) Z) Z<|.nx<|.an 5 [] (by kernel_rfl) ⟨?_,trivial⟩
          refine .ao #[true,true,true,true,true,true,false,false,false] Z Z<|.yv (.fieldAddr Z Fx.field51_1) Z<|.nx<|.an 6 [] (by kernel_rfl) ⟨?_,trivial⟩
          refine .ao #[true,true,true,true,true,true,true,false,false] Z Z<|.st .head Z Z Fx.size9 Z (nb Z) Z<|.nx<|.an 7 [] (by kernel_rfl) ⟨?_,trivial⟩
          refine .ao #[true,true,true,true,true,true,true,true,false] Z Z<|.yv (.fieldAddr Z Fx.field51_2) Z<|.nx<|.an 8 [] (by kernel_rfl) ⟨?_,trivial⟩
          exact .ao #[true,true,true,true,true,true,true,true,true] Z Z<|.st .head Z Z Fx.size2 Z (nb Z) Z<|.nx<|.ae (by kernel_rfl)<|.tN<|.me (x.ct.toNat % 4,wordR x.nm,x.n) ⟨rfl,trivial⟩ ⟨rfl,rfl,rfl,rfl,trivial⟩ (fun _ s => s) ⟨by dsimp only;omega,by dsimp only;first | exact word_len _ | exact hnm⟩
         refine .ao #[true,true,true,true,false,true,false,false,false] Z Z<|.yv (.fieldAddr Z Fx.field51_1) Z<|.nx<|.an 4 [6] (by kernel_rfl) ⟨?_,?_,trivial⟩
         ·
          refine .ao #[true,true,true,true,true,true,false,false,false] Z Z<|.yv (.load Z Fx.agg2 (.tail _<|.head _) Z) Z<|.nx<|.an 6 [] (by kernel_rfl) ⟨?_,trivial⟩
          refine .ao #[true,true,true,true,true,true,true,false,false] Z Z<|.st .head Z Z Fx.size9 Z (nb Z) Z<|.nx<|.an 7 [] (by kernel_rfl) ⟨?_,trivial⟩
          refine .ao #[true,true,true,true,true,true,true,true,false] Z Z<|.yv (.fieldAddr Z Fx.field51_2) Z<|.nx<|.an 8 [] (by kernel_rfl) ⟨?_,trivial⟩
          exact .ao #[true,true,true,true,true,true,true,true,true] Z Z<|.st .head Z Z Fx.size2 Z (nb Z) Z<|.nx<|.ae (by kernel_rfl)<|.tN<|.me (x.ct.toNat % 4,wordR x.nm,x.n) ⟨rfl,trivial⟩ ⟨rfl,rfl,rfl,rfl,trivial⟩ (fun _ s => s) ⟨by dsimp only;omega,by dsimp only;first | exact word_len _ | exact hnm⟩
         refine .ao #[true,true,true,true,false,true,true,false,false] Z Z<|.st .head Z Z Fx.size9 Z (nb Z) Z<|.nx<|.an 4 [] (by kernel_rfl) ⟨?_,trivial⟩
         refine .ao #[true,true,true,true,true,true,true,false,false] Z Z<|.yv (.load Z Fx.agg2 (.tail _<|.head _) Z) Z<|.nx<|.an 7 [] (by kernel_rfl) ⟨?_,trivial⟩
         refine .ao #[true,true,true,true,true,true,true,true,false] Z Z<|.yv (.fieldAddr Z Fx.field51_2) Z<|.nx<|.an 8 [] (by kernel_rfl) ⟨?_,trivial⟩
         exact .ao #[true,true,true,true,true,true,true,true,true] Z Z<|.st .head Z Z Fx.size2 Z (nb Z) Z<|.nx<|.ae (by kernel_rfl)<|.tN<|.me (x.ct.toNat % 4,wordR x.nm,x.n) ⟨rfl,trivial⟩ ⟨rfl,rfl,rfl,rfl,trivial⟩ (fun _ s => s) ⟨by dsimp only;omega,by dsimp only;first | exact word_len _ | exact hnm⟩
        refine .ao #[true,true,true,false,false,true,false,false,false] Z Z<|.yv (.fieldAddr Z Fx.field51_1) Z<|.nx<|.an 3 [6] (by kernel_rfl) ⟨?_,?_,trivial⟩
        ·
         refine .ao #[true,true,true,true,false,true,false,false,false] Z Z<|.yv (.fieldAddr Z Fx.field173_4) Z<|.nx<|.an 4 [6] (by kernel_rfl) ⟨?_,?_,trivial⟩
         ·
          refine .ao #[true,true,true,true,true,true,false,false,false] Z Z<|.yv (.load Z Fx.agg2 (.tail _<|.head _) Z) Z<|.nx<|.an 6 [] (by kernel_rfl) ⟨?_,trivial⟩
          refine .ao #[true,true,true,true,true,true,true,false,false] Z Z<|.st .head Z Z Fx.size9 Z (nb Z) Z<|.nx<|.an 7 [] (by kernel_rfl) ⟨?_,trivial⟩
          refine .ao #[true,true,true,true,true,true,true,true,false] Z Z<|.yv (.fieldAddr Z Fx.field51_2) Z<|.nx<|.an 8 [] (by kernel_rfl) ⟨?_,trivial⟩
          exact .ao #[true,true,true,true,true,true,true,true,true] Z Z<|.st .head Z Z Fx.size2 Z (nb Z) Z<|.nx<|.ae (by kernel_rfl)<|.tN<|.me (x.ct.toNat % 4,wordR x.nm,x.n) ⟨rfl,trivial⟩ ⟨rfl,rfl,rfl,rfl,trivial⟩ (fun _ s => s) ⟨by dsimp only;omega,by dsimp only;first | exact word_len _ | exact hnm⟩
         refine .ao #[true,true,true,true,false,true,true,false,false] Z Z<|.st .head Z Z Fx.size9 Z (nb Z) Z<|.nx<|.an 4 [] (by kernel_rfl) ⟨?_,trivial⟩
         refine .ao #[true,true,true,true,true,true,true,false,false] Z Z<|.yv (.load Z Fx.agg2 (.tail _<|.head _) Z) Z<|.nx<|.an 7 [] (by kernel_rfl) ⟨?_,trivial⟩
         refine .ao #[true,true,true,true,true,true,true,true,false] Z Z<|.yv (.fieldAddr Z Fx.field51_2) Z<|.nx<|.an 8 [] (by kernel_rfl) ⟨?_,trivial⟩
         exact .ao #[true,true,true,true,true,true,true,true,true] Z Z<|.st .head Z Z Fx.size2 Z (nb Z) Z<|.nx<|.ae (by kernel_rfl)<|.tN<|.me (x.ct.toNat % 4,wordR x.nm,x.n) ⟨rfl,trivial⟩ ⟨rfl,rfl,rfl,rfl,trivial⟩ (fun _ s => s) ⟨by dsimp only;omega,by dsimp only;first | exact word_len _ | exact hnm⟩
        refine .ao #[true,true,true,false,false,true,true,false,false] Z Z<|.st .head Z Z Fx.size9 Z (nb Z) Z<|.nx<|.an 3 [] (by kernel_rfl) ⟨?_,trivial⟩
        refine .ao #[true,true,true,true,false,true,true,false,false] Z Z<|.yv (.fieldAddr Z Fx.field173_4) Z<|.nx<|.an 4 [] (by kernel_rfl) ⟨?_,trivial⟩
        refine .ao #[true,true,true,true,true,true,true,false,false] Z Z<|.yv (.load Z Fx.agg2 (.tail _<|.head _) Z) Z<|.nx<|.an 7 [] (by kernel_rfl) ⟨?_,trivial⟩
        refine .ao #[true,true,true,true,true,true,true,true,false] Z Z<|.yv (.fieldAddr Z Fx.field51_2) Z<|.nx<|.an 8 [] (by kernel_rfl) ⟨?_,trivial⟩
        exact .ao #[true,true,true,true,true,true,true,true,true] Z Z<|.st .head Z Z Fx.size2 Z (nb Z) Z<|.nx<|.ae (by kernel_rfl)<|.tN<|.me (x.ct.toNat % 4,wordR x.nm,x.n) ⟨rfl,trivial⟩ ⟨rfl,rfl,rfl,rfl,trivial⟩ (fun _ s => s) ⟨by dsimp only;omega,by dsimp only;first | exact word_len _ | exact hnm⟩
       refine .ao #[true,true,false,true,false,false,false,false,false] Z Z<|.yv (.fieldAddr Z Fx.field173_4) Z<|.nx<|.an 2 [4] (by kernel_rfl) ⟨?_,?_,trivial⟩
       ·
        refine .ao #[true,true,true,true,false,false,false,false,false] Z Z<|.yv (.call Fx.call53 Z (fun W s => word_any H x.nm W s.agr)) Z<|.nx<|.an 4 [5] (by kernel_rfl) ⟨?_,?_,trivial⟩
        ·
         refine .ao #[true,true,true,true,true,false,false,false,false] Z Z<|.yv (.load Z Fx.agg2 (.tail _<|.head _) Z) Z<|.nx<|.an 5 [] (by kernel_rfl) ⟨?_,trivial⟩
         refine .ao #[true,true,true,true,true,true,false,false,false] Z Z<|.yv (.fieldAddr Z Fx.field51_1) Z<|.nx<|.an 6 [] (by kernel_rfl) ⟨?_,trivial⟩
         refine .ao #[true,true,true,true,true,true,true,false,false] Z Z<|.st .head Z Z Fx.size9 Z (nb Z) Z<|.nx<|.an 7 [] (by kernel_rfl) ⟨?_,trivial⟩
         refine .ao #[true,true,true,true,true,true,true,true,false] Z Z<|.yv (.fieldAddr Z Fx.field51_2) Z<|.nx<|.an 8 [] (by kernel_rfl) ⟨?_,trivial⟩
         exact .ao #[true,true,true,true,true,true,true,true,true] Z Z<|.st .head Z Z Fx.size2 Z (nb Z) Z<|.nx<|.ae (by kernel_rfl)<|.tN<|.me (x.ct.toNat % 4,wordR x.nm,x.n) ⟨rfl,trivial⟩ ⟨rfl,rfl,rfl,rfl,trivial⟩ (fun _ s => s) ⟨by dsimp only;omega,by dsimp only;first | exact word_len _ | exact hnm⟩
        refine .ao #[true,true,true,true,false,true,false,false,false] Z Z<|.yv (.fieldAddr Z Fx.field51_1) Z<|.nx<|.an 4 [6] (by kernel_rfl) ⟨?_,?_,trivial⟩
        ·
         refine .ao #[true,true,true,true,true,true,false,false,false] Z Z<|.yv (.load Z Fx.agg2 (.tail _<|.head _) Z) Z<|.nx<|.an 6 [] (by kernel_rfl) ⟨?_,trivial⟩
         refine .ao #[true,true,true,true,true,true,true,false,false] Z Z<|.st .head Z Z Fx.size9 Z (nb Z) Z<|.nx<|.an 7 [] (by kernel_rfl) ⟨?_,trivial⟩
         refine .ao #[true,true,true,true,true,true,true,true,false] Z Z<|.yv (.fieldAddr Z Fx.field51_2) Z<|.nx<|.an 8 [] (by kernel_rfl) ⟨?_,trivial⟩
         exact .ao #[true,true,true,true,true,true,true,true,true] Z Z<|.st .head Z Z Fx.size2 Z (nb Z) Z<|.nx<|.ae (by kernel_rfl)<|.tN<|.me (x.ct.toNat % 4,wordR x.nm,x.n) ⟨rfl,trivial⟩ ⟨rfl,rfl,rfl,rfl,trivial⟩ (fun _ s => s) ⟨by dsimp only;omega,by dsimp only;first | exact word_len _ | exact hnm⟩
        refine .ao #[true,true,true,true,false,true,true,false,false] Z Z<|.st .head Z Z Fx.size9 Z (nb Z) Z<|.nx<|.an 4 [] (by kernel_rfl) ⟨?_,trivial⟩
        refine .ao #[true,true,true,true,true,true,true,false,false] Z Z<|.yv (.load Z Fx.agg2 (.tail _<|.head _) Z) Z<|.nx<|.an 7 [] (by kernel_rfl) ⟨?_,trivial⟩
        refine .ao #[true,true,true,true,true,true,true,true,false] Z Z<|.yv (.fieldAddr Z Fx.field51_2) Z<|.nx<|.an 8 [] (by kernel_rfl) ⟨?_,trivial⟩
        exact .ao #[true,true,true,true,true,true,true,true,true] Z Z<|.st .head Z Z Fx.size2 Z (nb Z) Z<|.nx<|.ae (by kernel_rfl)<|.tN<|.me (x.ct.toNat % 4,wordR x.nm,x.n) ⟨rfl,trivial⟩ ⟨rfl,rfl,rfl,rfl,trivial⟩ (fun _ s => s) ⟨by dsimp only;omega,by dsimp only;first | exact word_len _ | exact hnm⟩
       refine .ao #[true,true,false,true,true,false,false,false,false] Z Z<|.yv (.load Z Fx.agg2 (.tail _<|.head _) Z) Z<|.nx<|.an 2 [] (by kernel_rfl) ⟨?_,trivial⟩
       refine .ao #[true,true,true,true,true,false,false,false,false] Z Z<|.yv (.call Fx.call53 Z (fun W s => word_any H x.nm W s.agr)) Z<|.nx<|.an 5 [] (by kernel_rfl) ⟨?_,trivial⟩
       refine .ao #[true,true,true,true,true,true,false,false,false] Z Z<|.yv (.fieldAddr Z Fx.field51_1) Z<|.nx<|.an 6 [] (by kernel_rfl) ⟨?_,trivial⟩
       refine .ao #[true,true,true,true,true,true,true,false,false] Z Z<|.st .head Z Z Fx.size9 Z (nb Z) Z<|.nx<|.an 7 [] (by kernel_rfl) ⟨?_,trivial⟩
       refine .ao #[true,true,true,true,true,true,true,true,false] Z Z<|.yv (.fieldAddr Z Fx.field51_2) Z<|.nx<|.an 8 [] (by kernel_rfl) ⟨?_,trivial⟩
       exact .ao #[true,true,true,true,true,true,true,true,true] Z Z<|.st .head Z Z Fx.size2 Z (nb Z) Z<|.nx<|.ae (by kernel_rfl)<|.tN<|.me (x.ct.toNat % 4,wordR x.nm,x.n) ⟨rfl,trivial⟩ ⟨rfl,rfl,rfl,rfl,trivial⟩ (fun _ s => s) ⟨by dsimp only;omega,by dsimp only;first | exact word_len _ | exact hnm⟩
      refine .ao #[true,false,false,true,false,false,false,false,false] Z Z<|.yv (.fieldAddr Z Fx.field173_4) Z<|.nx<|.an 1 [4] (by kernel_rfl) ⟨?_,?_,trivial⟩
      ·
       refine .ao #[true,true,false,true,false,false,false,false,false] Z Z<|.yv (.load Z Fx.agg5 (.tail _<|.head _) Z) Z<|.nx<|.an 2 [4] (by kernel_rfl) ⟨?_,?_,trivial⟩
       ·
        refine .ao #[true,true,true,true,false,false,false,false,false] Z Z<|.yv (.call Fx.call53 Z (fun W s => word_any H x.nm W s.agr)) Z<|.nx<|.an 4 [5] (by kernel_rfl) ⟨?_,?_,trivial⟩
        ·
         refine .ao #[true,true,true,true,true,false,false,false,false] Z Z<|.yv (.load Z Fx.agg2 (.tail _<|.head _) Z) Z<|.nx<|.an 5 [] (by kernel_rfl) ⟨?_,trivial⟩
         refine .ao #[true,true,true,true,true,true,false,false,false] Z Z<|.yv (.fieldAddr Z Fx.field51_1) Z<|.nx<|.an 6 [] (by kernel_rfl) ⟨?_,trivial⟩
         refine .ao #[true,true,true,true,true,true,true,false,false] Z Z<|.st .head Z Z Fx.size9 Z (nb Z) Z<|.nx<|.an 7 [] (by kernel_rfl) ⟨?_,trivial⟩
         refine .ao #[true,true,true,true,true,true,true,true,false] Z Z<|.yv (.fieldAddr Z Fx.field51_2) Z<|.nx<|.an 8 [] (by kernel_rfl) ⟨?_,trivial⟩
         exact .ao #[true,true,true,true,true,true,true,true,true] Z Z<|.st .head Z Z Fx.size2 Z (nb Z) Z<|.nx<|.ae (by kernel_rfl)<|.tN<|.me (x.ct.toNat % 4,wordR x.nm,x.n) ⟨rfl,trivial⟩ ⟨rfl,rfl,rfl,rfl,trivial⟩ (fun _ s => s) ⟨by dsimp only;omega,by dsimp only;first | exact word_len _ | exact hnm⟩
        refine .ao #[true,true,true,true,false,true,false,false,false] Z Z<|.yv (.fieldAddr Z Fx.field51_1) Z<|.nx<|.an 4 [6] (by kernel_rfl) ⟨?_,?_,trivial⟩
        ·
         refine .ao #[true,true,true,true,true,true,false,false,false] Z Z<|.yv (.load Z Fx.agg2 (.tail _<|.head _) Z) Z<|.nx<|.an 6 [] (by kernel_rfl) ⟨?_,trivial⟩
         refine .ao #[true,true,true,true,true,true,true,false,false] Z Z<|.st .head Z Z Fx.size9 Z (nb Z) Z<|.nx<|.an 7 [] (by kernel_rfl) ⟨?_,trivial⟩
         refine .ao #[true,true,true,true,true,true,true,true,false] Z Z<|.yv (.fieldAddr Z Fx.field51_2) Z<|.nx<|.an 8 [] (by kernel_rfl) ⟨?_,trivial⟩
         exact .ao #[true,true,true,true,true,true,true,true,true] Z Z<|.st .head Z Z Fx.size2 Z (nb Z) Z<|.nx<|.ae (by kernel_rfl)<|.tN<|.me (x.ct.toNat % 4,wordR x.nm,x.n) ⟨rfl,trivial⟩ ⟨rfl,rfl,rfl,rfl,trivial⟩ (fun _ s => s) ⟨by dsimp only;omega,by dsimp only;first | exact word_len _ | exact hnm⟩
        refine .ao #[true,true,true,true,false,true,true,false,false] Z Z<|.st .head Z Z Fx.size9 Z (nb Z) Z<|.nx<|.an 4 [] (by kernel_rfl) ⟨?_,trivial⟩
        refine .ao #[true,true,true,true,true,true,true,false,false] Z Z<|.yv (.load Z Fx.agg2 (.tail _<|.head _) Z) Z<|.nx<|.an 7 [] (by kernel_rfl) ⟨?_,trivial⟩
        refine .ao #[true,true,true,true,true,true,true,true,false] Z Z<|.yv (.fieldAddr Z Fx.field51_2) Z<|.nx<|.an 8 [] (by kernel_rfl) ⟨?_,trivial⟩
        exact .ao #[true,true,true,true,true,true,true,true,true] Z Z<|.st .head Z Z Fx.size2 Z (nb Z) Z<|.nx<|.ae (by kernel_rfl)<|.tN<|.me (x.ct.toNat % 4,wordR x.nm,x.n) ⟨rfl,trivial⟩ ⟨rfl,rfl,rfl,rfl,trivial⟩ (fun _ s => s) ⟨by dsimp only;omega,by dsimp only;first | exact word_len _ | exact hnm⟩
       refine .ao #[true,true,false,true,true,false,false,false,false] Z Z<|.yv (.load Z Fx.agg2 (.tail _<|.head _) Z) Z<|.nx<|.an 2 [] (by kernel_rfl) ⟨?_,trivial⟩
       refine .ao #[true,true,true,true,true,false,false,false,false] Z Z<|.yv (.call Fx.call53 Z (fun W s => word_any H x.nm W s.agr)) Z<|.nx<|.an 5 [] (by kernel_rfl) ⟨?_,trivial⟩
       refine .ao #[true,true,true,true,true,true,false,false,false] Z Z<|.yv (.fieldAddr Z Fx.field51_1) Z<|.nx<|.an 6 [] (by kernel_rfl) ⟨?_,trivial⟩
       refine .ao #[true,true,true,true,true,true,true,false,false] Z Z<|.st .head Z Z Fx.size9 Z (nb Z) Z<|.nx<|.an 7 [] (by kernel_rfl) ⟨?_,trivial⟩
       refine .ao #[true,true,true,true,true,true,true,true,false] Z Z<|.yv (.fieldAddr Z Fx.field51_2) Z<|.nx<|.an 8 [] (by kernel_rfl) ⟨?_,trivial⟩
       exact .ao #[true,true,true,true,true,true,true,true,true] Z Z<|.st .head Z Z Fx.size2 Z (nb Z) Z<|.nx<|.ae (by kernel_rfl)<|.tN<|.me (x.ct.toNat % 4,wordR x.nm,x.n) ⟨rfl,trivial⟩ ⟨rfl,rfl,rfl,rfl,trivial⟩ (fun _ s => s) ⟨by dsimp only;omega,by dsimp only;first | exact word_len _ | exact hnm⟩
      refine .ao #[true,false,false,true,true,false,false,false,false] Z Z<|.yv (.load Z Fx.agg2 (.tail _<|.head _) Z) Z<|.nx<|.an 1 [] (by kernel_rfl) ⟨?_,trivial⟩
      refine .ao #[true,true,false,true,true,false,false,false,false] Z Z<|.yv (.load Z Fx.agg5 (.tail _<|.head _) Z) Z<|.nx<|.an 2 [] (by kernel_rfl) ⟨?_,trivial⟩
      refine .ao #[true,true,true,true,true,false,false,false,false] Z Z<|.yv (.call Fx.call53 Z (fun W s => word_any H x.nm W s.agr)) Z<|.nx<|.an 5 [] (by kernel_rfl) ⟨?_,trivial⟩
      refine .ao #[true,true,true,true,true,true,false,false,false] Z Z<|.yv (.fieldAddr Z Fx.field51_1) Z<|.nx<|.an 6 [] (by kernel_rfl) ⟨?_,trivial⟩
      refine .ao #[true,true,true,true,true,true,true,false,false] Z Z<|.st .head Z Z Fx.size9 Z (nb Z) Z<|.nx<|.an 7 [] (by kernel_rfl) ⟨?_,trivial⟩
      refine .ao #[true,true,true,true,true,true,true,true,false] Z Z<|.yv (.fieldAddr Z Fx.field51_2) Z<|.nx<|.an 8 [] (by kernel_rfl) ⟨?_,trivial⟩
      exact .ao #[true,true,true,true,true,true,true,true,true] Z Z<|.st .head Z Z Fx.size2 Z (nb Z) Z<|.nx<|.ae (by kernel_rfl)<|.tN<|.me (x.ct.toNat % 4,wordR x.nm,x.n) ⟨rfl,trivial⟩ ⟨rfl,rfl,rfl,rfl,trivial⟩ (fun _ s => s) ⟨by dsimp only;omega,by dsimp only;first | exact word_len _ | exact hnm⟩
     refine .ao #[false,false,false,true,false,false,false,false,false] Z Z<|.yv (.fieldAddr Z Fx.field173_4) Z<|.nx<|.an 0 [4] (by kernel_rfl) ⟨?_,?_,trivial⟩
     ·
      refine .ao #[true,false,false,true,false,false,false,false,false] Z Z<|.yv (.fieldAddr Z Fx.field173_1) Z<|.nx<|.an 1 [4] (by kernel_rfl) ⟨?_,?_,trivial⟩
      ·
       refine .ao #[true,true,false,true,false,false,false,false,false] Z Z<|.yv (.load Z Fx.agg5 (.tail _<|.head _) Z) Z<|.nx<|.an 2 [4] (by kernel_rfl) ⟨?_,?_,trivial⟩
       ·
        refine .ao #[true,true,true,true,false,false,false,false,false] Z Z<|.yv (.call Fx.call53 Z (fun W s => word_any H x.nm W s.agr)) Z<|.nx<|.an 4 [5] (by kernel_rfl) ⟨?_,?_,trivial⟩
        ·
         refine .ao #[true,true,true,true,true,false,false,false,false] Z Z<|.yv (.load Z Fx.agg2 (.tail _<|.head _) Z) Z<|.nx<|.an 5 [] (by kernel_rfl) ⟨?_,trivial⟩
         refine .ao #[true,true,true,true,true,true,false,false,false] Z Z<|.yv (.fieldAddr Z Fx.field51_1) Z<|.nx<|.an 6 [] (by kernel_rfl) ⟨?_,trivial⟩
         refine .ao #[true,true,true,true,true,true,true,false,false] Z Z<|.st .head Z Z Fx.size9 Z (nb Z) Z<|.nx<|.an 7 [] (by kernel_rfl) ⟨?_,trivial⟩
         refine .ao #[true,true,true,true,true,true,true,true,false] Z Z<|.yv (.fieldAddr Z Fx.field51_2) Z<|.nx<|.an 8 [] (by kernel_rfl) ⟨?_,trivial⟩
         exact .ao #[true,true,true,true,true,true,true,true,true] Z Z<|.st .head Z Z Fx.size2 Z (nb Z) Z<|.nx<|.ae (by kernel_rfl)<|.tN<|.me (x.ct.toNat % 4,wordR x.nm,x.n) ⟨rfl,trivial⟩ ⟨rfl,rfl,rfl,rfl,trivial⟩ (fun _ s => s) ⟨by dsimp only;omega,by dsimp only;first | exact word_len _ | exact hnm⟩
        refine .ao #[true,true,true,true,false,true,false,false,false] Z Z<|.yv (.fieldAddr Z Fx.field51_1) Z<|.nx<|.an 4 [6] (by kernel_rfl) ⟨?_,?_,trivial⟩
        ·
         refine .ao #[true,true,true,true,true,true,false,false,false] Z Z<|.yv (.load Z Fx.agg2 (.tail _<|.head _) Z) Z<|.nx<|.an 6 [] (by kernel_rfl) ⟨?_,trivial⟩
         refine .ao #[true,true,true,true,true,true,true,false,false] Z Z<|.st .head Z Z Fx.size9 Z (nb Z) Z<|.nx<|.an 7 [] (by kernel_rfl) ⟨?_,trivial⟩
         refine .ao #[true,true,true,true,true,true,true,true,false] Z Z<|.yv (.fieldAddr Z Fx.field51_2) Z<|.nx<|.an 8 [] (by kernel_rfl) ⟨?_,trivial⟩
         exact .ao #[true,true,true,true,true,true,true,true,true] Z Z<|.st .head Z Z Fx.size2 Z (nb Z) Z<|.nx<|.ae (by kernel_rfl)<|.tN<|.me (x.ct.toNat % 4,wordR x.nm,x.n) ⟨rfl,trivial⟩ ⟨rfl,rfl,rfl,rfl,trivial⟩ (fun _ s => s) ⟨by dsimp only;omega,by dsimp only;first | exact word_len _ | exact hnm⟩
        refine .ao #[true,true,true,true,false,true,true,false,false] Z Z<|.st .head Z Z Fx.size9 Z (nb Z) Z<|.nx<|.an 4 [] (by kernel_rfl) ⟨?_,trivial⟩
        refine .ao #[true,true,true,true,true,true,true,false,false] Z Z<|.yv (.load Z Fx.agg2 (.tail _<|.head _) Z) Z<|.nx<|.an 7 [] (by kernel_rfl) ⟨?_,trivial⟩
        refine .ao #[true,true,true,true,true,true,true,true,false] Z Z<|.yv (.fieldAddr Z Fx.field51_2) Z<|.nx<|.an 8 [] (by kernel_rfl) ⟨?_,trivial⟩
        exact .ao #[true,true,true,true,true,true,true,true,true] Z Z<|.st .head Z Z Fx.size2 Z (nb Z) Z<|.nx<|.ae (by kernel_rfl)<|.tN<|.me (x.ct.toNat % 4,wordR x.nm,x.n) ⟨rfl,trivial⟩ ⟨rfl,rfl,rfl,rfl,trivial⟩ (fun _ s => s) ⟨by dsimp only;omega,by dsimp only;first | exact word_len _ | exact hnm⟩
       refine .ao #[true,true,false,true,true,false,false,false,false] Z Z<|.yv (.load Z Fx.agg2 (.tail _<|.head _) Z) Z<|.nx<|.an 2 [] (by kernel_rfl) ⟨?_,trivial⟩
       refine .ao #[true,true,true,true,true,false,false,false,false] Z Z<|.yv (.call Fx.call53 Z (fun W s => word_any H x.nm W s.agr)) Z<|.nx<|.an 5 [] (by kernel_rfl) ⟨?_,trivial⟩
       refine .ao #[true,true,true,true,true,true,false,false,false] Z Z<|.yv (.fieldAddr Z Fx.field51_1) Z<|.nx<|.an 6 [] (by kernel_rfl) ⟨?_,trivial⟩
       refine .ao #[true,true,true,true,true,true,true,false,false] Z Z<|.st .head Z Z Fx.size9 Z (nb Z) Z<|.nx<|.an 7 [] (by kernel_rfl) ⟨?_,trivial⟩
       refine .ao #[true,true,true,true,true,true,true,true,false] Z Z<|.yv (.fieldAddr Z Fx.field51_2) Z<|.nx<|.an 8 [] (by kernel_rfl) ⟨?_,trivial⟩
       exact .ao #[true,true,true,true,true,true,true,true,true] Z Z<|.st .head Z Z Fx.size2 Z (nb Z) Z<|.nx<|.ae (by kernel_rfl)<|.tN<|.me (x.ct.toNat % 4,wordR x.nm,x.n) ⟨rfl,trivial⟩ ⟨rfl,rfl,rfl,rfl,trivial⟩ (fun _ s => s) ⟨by dsimp only;omega,by dsimp only;first | exact word_len _ | exact hnm⟩
      refine .ao #[true,false,false,true,true,false,false,false,false] Z Z<|.yv (.load Z Fx.agg2 (.tail _<|.head _) Z) Z<|.nx<|.an 1 [] (by kernel_rfl) ⟨?_,trivial⟩
      refine .ao #[true,true,false,true,true,false,false,false,false] Z Z<|.yv (.load Z Fx.agg5 (.tail _<|.head _) Z) Z<|.nx<|.an 2 [] (by kernel_rfl) ⟨?_,trivial⟩
      refine .ao #[true,true,true,true,true,false,false,false,false] Z Z<|.yv (.call Fx.call53 Z (fun W s => word_any H x.nm W s.agr)) Z<|.nx<|.an 5 [] (by kernel_rfl) ⟨?_,trivial⟩
      refine .ao #[true,true,true,true,true,true,false,false,false] Z Z<|.yv (.fieldAddr Z Fx.field51_1) Z<|.nx<|.an 6 [] (by kernel_rfl) ⟨?_,trivial⟩
      refine .ao #[true,true,true,true,true,true,true,false,false] Z Z<|.st .head Z Z Fx.size9 Z (nb Z) Z<|.nx<|.an 7 [] (by kernel_rfl) ⟨?_,trivial⟩
      refine .ao #[true,true,true,true,true,true,true,true,false] Z Z<|.yv (.fieldAddr Z Fx.field51_2) Z<|.nx<|.an 8 [] (by kernel_rfl) ⟨?_,trivial⟩
      exact .ao #[true,true,true,true,true,true,true,true,true] Z Z<|.st .head Z Z Fx.size2 Z (nb Z) Z<|.nx<|.ae (by kernel_rfl)<|.tN<|.me (x.ct.toNat % 4,wordR x.nm,x.n) ⟨rfl,trivial⟩ ⟨rfl,rfl,rfl,rfl,trivial⟩ (fun _ s => s) ⟨by dsimp only;omega,by dsimp only;first | exact word_len _ | exact hnm⟩
     refine .ao #[false,false,false,true,true,false,false,false,false] Z Z<|.yv (.load Z Fx.agg2 (.tail _<|.head _) Z) Z<|.nx<|.an 0 [] (by kernel_rfl) ⟨?_,trivial⟩
     refine .ao #[true,false,false,true,true,false,false,false,false] Z Z<|.yv (.fieldAddr Z Fx.field173_1) Z<|.nx<|.an 1 [] (by kernel_rfl) ⟨?_,trivial⟩
     refine .ao #[true,true,false,true,true,false,false,false,false] Z Z<|.yv (.load Z Fx.agg5 (.tail _<|.head _) Z) Z<|.nx<|.an 2 [] (by kernel_rfl) ⟨?_,trivial⟩
     refine .ao #[true,true,true,true,true,false,false,false,false] Z Z<|.yv (.call Fx.call53 Z (fun W s => word_any H x.nm W s.agr)) Z<|.nx<|.an 5 [] (by kernel_rfl) ⟨?_,trivial⟩
     refine .ao #[true,true,true,true,true,true,false,false,false] Z Z<|.yv (.fieldAddr Z Fx.field51_1) Z<|.nx<|.an 6 [] (by kernel_rfl) ⟨?_,trivial⟩
     refine .ao #[true,true,true,true,true,true,true,false,false] Z Z<|.st .head Z Z Fx.size9 Z (nb Z) Z<|.nx<|.an 7 [] (by kernel_rfl) ⟨?_,trivial⟩
     refine .ao #[true,true,true,true,true,true,true,true,false] Z Z<|.yv (.fieldAddr Z Fx.field51_2) Z<|.nx<|.an 8 [] (by kernel_rfl) ⟨?_,trivial⟩
     exact .ao #[true,true,true,true,true,true,true,true,true] Z Z<|.st .head Z Z Fx.size2 Z (nb Z) Z<|.nx<|.ae (by kernel_rfl)<|.tN<|.me (x.ct.toNat % 4,wordR x.nm,x.n) ⟨rfl,trivial⟩ ⟨rfl,rfl,rfl,rfl,trivial⟩ (fun _ s => s) ⟨by dsimp only;omega,by dsimp only;first | exact word_len _ | exact hnm⟩
    skip
    exact .sk<|.tN<|.me (x.ct.toNat % 4,nm,nn) ⟨rfl,trivial⟩ ⟨rfl,rfl,rfl,rfl,trivial⟩ (fun _ s => s) ⟨by dsimp only;omega,by dsimp only;first | exact word_len _ | exact hnm⟩
   skip
   exact .sk<|.tN<|.me (m0,nm,nn) ⟨rfl,trivial⟩ ⟨rfl,rfl,rfl,rfl,trivial⟩ (fun _ s => s) ⟨by dsimp only;omega,by dsimp only;first | exact word_len _ | exact hnm⟩
  obtain ⟨m,nm,nn⟩ := z
  dsimp only at hC ⊢
  obtain ⟨hm3,hnm⟩ := hC
  refine Sx.row0 51 4 ?_
  refine .sq<|.sr<|.a Z Z<|.nt<|.bk<|.lp (X := Nat × Hp × Value × List Value × Value) [(1,_),(4,_),(7,_),(8,_)] ⟨rfl,rfl,rfl,rfl,trivial⟩ [_,_] (fun z => [(9,.int .i64 (z.1 : Nat)),(0,z.2.2.2.2)]) (fun z => z.2.1) (fun z => [.row 51 4 z.2.2.1 z.1 z.2.2.2.1,.box b7 [.int .i64 op.toNat,strV nm,.int .i64 (nn).toInt,z.2.2.1] 51]) (fun z => z.1 ≤ m ∧ HUp w H z.2.1 ∧ ∃ (es : List Ex) (rest : List Nd),es.length = z.1 ∧ RepZ z.2.1 4 (es.map (dEx .i64)) z.2.2.2.1 ∧ goodEs d es ∧ Rep z.2.1 (.seq 5 (rest.map dNd)) [z.2.2.2.2]) (fun z => m - z.1) (0,H,.slice none 0 0,[],_) (fun _ s => s) ⟨rfl,rfl,trivial⟩ ⟨by simp,.refl,[],_,rfl,RepZ.nil,goodEs_nil d,(by have h5 := rep_drop h (lo := 1) (by omega);rw [← List.map_drop] at h5;exact h5)⟩ fun z hC => ?_
  obtain ⟨k,H1,r,xs,rv⟩ := z
  dsimp only at hC ⊢
  obtain ⟨hk0,u1,es,rest,hlen,hz,hgs,hrs⟩ := hC
  refine .sq<|.sr<|.m Z Z<|.m Z Z<|.yv (.lss Z Z) Z<|.nt<|.cd Z (fun h72 => ?_) (fun h72 => ?_)
  ·try simp only [dt] at h72
   have hk : k < m := by omega
   refine .sk<|.tN<|.sq<|.bk<|.sr<|.m Z Z<|.m Z Z<|.yv (.add Z Z (w6 (by omega))) Z<|.ct (X := List Value × Value) Fx.call49 Z (fun W s => ih (f - 1) (by omega) (d + 1) (by omega) H1 _ _ W hrs s.agr) Z fun y2 H2 hc2 u2 => ?_
   obtain ⟨x2,y2⟩ := y2
   obtain ⟨x2e,rest2,hc2,hg2,hrs2⟩ := hc2
   dsimp only at hc2 hrs2 ⊢
   obtain ⟨op2,nm2,n2,args2⟩ := x2e
   obtain ⟨p2,c2,rfl,hs2,hnm2⟩ := ex_open hc2
   refine .m Z Z<|.yv (.extract Z Z) Z<|.yv (.extract Z Z) Z<|.al Fx.zero51 Z fun b10 => .sW .head Z Z Fx.size51 (by simp [Value.oneCell',strV,cNd]) Z<|.a Z Z<|.nt<|.rg<|.yv (.fieldAddr Z Fx.field51_3) Z<|.yv (.load Z Fx.agg49 (.tail _<|.tail _<|.head _) Z) Z<|.yv (.loadW Z Fx.agg51 (.head _) Z) Z<|.bl Z (Fx.bsl49_1 _ _ _ _) Z fun b85 => .ap (news := [.int .i64 op2.toNat,strV nm2,.int .i64 n2.toInt,.slice p2 args2.length c2]) Fx.row49 Z (fun _ => (.tail<|.tail<|.head)) Z (.box (.head _) z0) Z (by simp [Value.oneCell',strV]) (by simp [maxLen];omega) (by omega) Z fun r86 _ => ?_
   refine At.ra (by first | exact .tail _ (.tail _ (.head _)) | exact .tail _ (.tail _ (.tail _ (.head _)))) fun p86 c86 e86 => ?_
   exact .m Z Z<|.yv (.fieldAddr Z Fx.field51_3) Z<|.st (.tail<|.tail<|.tail<|.head) Z Z Fx.size49 (by rw [e86];rfl) (nb Z) Z<|.a Z Z<|.nl<|.bN<|.tN<|.rg<|.m Z Z<|.yv (.add Z Z (w6 (by omega))) Z<|.a Z Z<|.nt<|.ag (x := (k,H1,r,xs,rv)) (k + 1,H2,r86,xs ++ [.int .i64 op2.toNat,strV nm2,.int .i64 n2.toInt,.slice p2 args2.length c2],y2) ⟨rfl,rfl,trivial⟩ ⟨rfl,rfl,rfl,rfl,trivial⟩ (fun _ s => (s.pick [2,3,4,5] _ Z Z)) ⟨by dsimp only;omega,u1.trans u2,es ++ [.mk op2 nm2 n2 args2],rest2,by simp;omega,by rw [List.map_append];exact (hz.up u2.up).snoc hc2 Z,goodEs_snoc hgs hg2,hrs2⟩ (by dsimp only;omega)
  try simp only [df] at h72
  obtain rfl : k = m := by omega
  refine At.ra (.head _) fun p86 c86 e86 => ?_
  subst e86
  refine .ex<|.tE<|.tE<|.bE<|.tN<|.sr<|.yv (.loadW Z Fx.agg51 (.tail _<|.head _) Z) Z<|.m Z Z<|.sW (.tail<|.tail<|.tail<|.head) Z Z Fx.size51 (by simp [Value.oneCell',strV,cNd]) Z<|.a Z Z<|.nt<|.rt<|?_
  refine At.pm [0,3] [_,_] rfl rfl ?_
  refine Sx.freezeSeq (ds := es.map (dEx .i64)) (by simp;omega) hz fun H3 p3 c3 u3 hr3 hs3 => ?_
  refine Sx.retN (.inl rfl) rfl (.cons (.cell rfl Fx.agg51 (.head _) rfl) (.cons (.tmp rfl) .nil)) rfl fun W s => ⟨(_,_),H3,⟨_,rest,ex_shut (by omega) hs3,?_,hrs.up u3.up⟩,rfl,(u1.trans u3).grow s⟩
  rw [goodE_mk]
  exact ⟨by omega,hgs⟩
structure Sp where
 wh : UInt8
 i : UInt8
 nm : UInt8
 n : Int64
 nodes : List Nd
def dSp (x : Sp) : D := .str [.val (.int .u8 x.wh.toNat),.val (.int .u8 x.i.toNat),.val (.int .u8 x.nm.toNat),.val (.int .i64 x.n.toInt),.seq 5 (x.nodes.map dNd)]
theorem sp_open {H : Hp} {x : Sp} {cs : List Value} (h : Rep H (dSp x) cs) : ∃ p c,cs = [.int .u8 x.wh.toNat,.int .u8 x.i.toNat,.int .u8 x.nm.toNat,.int .i64 x.n.toInt,.slice p x.nodes.length c] ∧ Rep H (.seq 5 (x.nodes.map dNd)) [.slice p x.nodes.length c] := by
 rw [dSp,repS] at h
 obtain ⟨_,rfl,_,_,h⟩ := repL_val.1 h
 obtain ⟨_,rfl,_,_,h⟩ := repL_val.1 h
 obtain ⟨_,rfl,_,_,h⟩ := repL_val.1 h
 obtain ⟨_,rfl,_,_,h⟩ := repL_val.1 h
 obtain ⟨p,c,_,rfl,hs,h⟩ := repL_seq.1 h
 rw [repL_nil] at h
 subst h
 rw [List.length_map] at hs ⊢
 exact ⟨p,c,rfl,hs⟩
def stopS : Sm := .mk 10 [] [] [] [] []
def wrapS : Nat → Sm → Sm
 | 0,s => s
 | n + 1,s => .mk 4 [] [] [.mk 2 [] 0 []] [wrapS n s] []
def okE (e : Ex) : Bool := decide (e.depth ≤ 64) && Ex.all narrow e
def okS2 (N : Nat) : Sm → Bool
 | .mk _ _ _ ex _ _ => decide (ex.length ≤ N) && ex.all okE
structure okL (N : Nat) (l : List Sm) : Prop where
 cnt : Sm.counts l ≤ N
 dep : Sm.deeps l ≤ N
 all : Sm.alls (okS2 N) l = true
mutual
theorem sall_imp {q q' : Sm → Bool} (h : ∀ s,q s = true → q' s = true) : ∀ s,Sm.all q s = true → Sm.all q' s = true
 | .mk kd nm hd ex th el,hh => by
  rw [sall_mk] at hh ⊢
  simp only [Bool.and_eq_true] at hh ⊢
  exact ⟨⟨h _ hh.1.1,salls_imp h th hh.1.2⟩,salls_imp h el hh.2⟩
theorem salls_imp {q q' : Sm → Bool} (h : ∀ s,q s = true → q' s = true) : ∀ l,Sm.alls q l = true → Sm.alls q' l = true
 | [],_ => rfl
 | s :: r,hh => by
  rw [Sm.alls,Bool.and_eq_true] at hh ⊢
  exact ⟨sall_imp h s hh.1,salls_imp h r hh.2⟩
end
theorem okS2_mono {N M : Nat} (h : N ≤ M) : ∀ s,okS2 N s = true → okS2 M s = true
 | .mk _ _ _ ex _ _,hh => by
  simp only [okS2,Bool.and_eq_true,decide_eq_true_eq] at hh ⊢
  exact ⟨by omega,hh.2⟩
theorem okL.mono {N M : Nat} {l : List Sm} (h : okL N l) (k : N ≤ M) : okL M l := ⟨by have := h.cnt;omega,by have := h.dep;omega,salls_imp (okS2_mono k) l h.all⟩
theorem okL.nil {N : Nat} : okL N [] := ⟨by simp [Sm.counts],by simp [Sm.deeps],rfl⟩
theorem okL.app {N M : Nat} {a b : List Sm} (h : okL N a) (k : okL M b) : okL (N + M) (a ++ b) := by
 have h2 := h.mono (M := N + M) (by omega)
 have k2 := k.mono (M := N + M) (by omega)
 refine ⟨?_,?_,?_⟩
 ·rw [scounts_app];have := h.cnt;have := k.cnt;omega
 ·rw [sdeeps_app];have := h2.dep;have := k2.dep;omega
 ·rw [salls_app,h2.all,k2.all];rfl
theorem okL.len {N : Nat} {l : List Sm} (h : okL N l) : l.length ≤ N := Nat.le_trans (scounts_len l) h.cnt
theorem okL.left {N : Nat} {a b : List Sm} (h : okL N (a ++ b)) : okL N a := by
 obtain ⟨h1,h2,h3⟩ := h
 rw [scounts_app] at h1
 rw [sdeeps_app] at h2
 rw [salls_app,Bool.and_eq_true] at h3
 exact ⟨by omega,by omega,h3.1⟩
theorem okL.right {N : Nat} {a b : List Sm} (h : okL N (a ++ b)) : okL N b := by
 obtain ⟨h1,h2,h3⟩ := h
 rw [scounts_app] at h1
 rw [sdeeps_app] at h2
 rw [salls_app,Bool.and_eq_true] at h3
 exact ⟨by omega,by omega,h3.2⟩
theorem split_at {α : Type} {l : List α} {j : Nat} (h : j < l.length) : l = l.take j ++ ([l[j]] ++ l.drop (j + 1)) := by simp
theorem set_at {α : Type} {l : List α} {j : Nat} (h : j < l.length) (s : α) : l.set j s = l.take j ++ ([s] ++ l.drop (j + 1)) := by
 rw [List.set_eq_take_append_cons_drop,if_pos h];rfl
theorem okL.at {N : Nat} {l : List Sm} (h : okL N l) {j : Nat} (hj : j < l.length) : okL N [l[j]] := by
 have h2 := h
 rw [split_at hj] at h2
 exact h2.right.left
theorem okL.put {N M : Nat} {l : List Sm} (h : okL N l) {j : Nat} (hj : j < l.length) {s : Sm} (k : okL (N + M) [s]) : okL (N + (N + M)) (l.set j s) := by
 have h2 := h
 rw [split_at hj] at h2
 have h3 : okL N (l.take j ++ l.drop (j + 1)) := by
  obtain ⟨a1,a2,a3⟩ := h2
  simp only [scounts_app,sdeeps_app,salls_app,Bool.and_eq_true] at a1 a2 a3
  refine ⟨?_,?_,?_⟩
  ·rw [scounts_app];omega
  ·rw [sdeeps_app];omega
  ·rw [salls_app,a3.1,a3.2.2];rfl
 rw [set_at hj]
 obtain ⟨a1,a2,a3⟩ := h3
 obtain ⟨b1,b2,b3⟩ := k
 rw [scounts_app] at a1
 rw [sdeeps_app] at a2
 rw [salls_app,Bool.and_eq_true] at a3
 have m1 := okS2_mono (N := N) (M := N + (N + M)) (by omega)
 have m2 := okS2_mono (N := N + M) (M := N + (N + M)) (by omega)
 refine ⟨?_,?_,?_⟩
 ·rw [scounts_app,scounts_app];omega
 ·rw [sdeeps_app,sdeeps_app];omega
 ·rw [salls_app,salls_app,salls_imp m1 _ a3.1,salls_imp m2 _ b3,salls_imp m1 _ a3.2];rfl
theorem okL_one {N : Nat} {kd : UInt8} {nm hd : Str} {ex : List Ex} {th el : List Sm} : okL N [.mk kd nm hd ex th el] ↔ Sm.counts th + Sm.counts el + 1 ≤ N ∧ Sm.deeps th + 1 ≤ N ∧ Sm.deeps el + 1 ≤ N ∧ ex.length ≤ N ∧ ex.all okE = true ∧ Sm.alls (okS2 N) th = true ∧ Sm.alls (okS2 N) el = true := by
 constructor
 ·rintro ⟨h1,h2,h3⟩
  simp only [Sm.counts,scount_mk] at h1
  simp only [Sm.deeps,sdepth_mk] at h2
  simp only [Sm.alls,sall_mk,okS2,Bool.and_eq_true,decide_eq_true_eq] at h3
  exact ⟨by omega,by omega,by omega,h3.1.1.1.1,h3.1.1.1.2,h3.1.1.2,h3.1.2⟩
 ·rintro ⟨h1,h2,h3,h4,h5,h6,h7⟩
  refine ⟨?_,?_,?_⟩
  ·simp only [Sm.counts,scount_mk];omega
  ·simp only [Sm.deeps,sdepth_mk];omega
  ·simp only [Sm.alls,sall_mk,okS2,Bool.and_eq_true,decide_eq_true_eq]
   exact ⟨⟨⟨⟨h4,h5⟩,h6⟩,h7⟩,trivial⟩
theorem okL_stop {N : Nat} (h : 1 ≤ N) : okL N [stopS] := okL_one.2 ⟨by simp [Sm.counts];omega,by simp [Sm.deeps];omega,by simp [Sm.deeps];omega,by simp,rfl,rfl,rfl⟩
theorem okL_wrap {N : Nat} {s : Sm} (h : okL N [s]) : ∀ n,okL (N + n) [wrapS n s]
 | 0 => h
 | n + 1 => by
  have ih := okL_wrap h n
  refine okL_one.2 ⟨?_,?_,?_,?_,?_,salls_imp (okS2_mono (by omega)) _ ih.all,rfl⟩
  ·have := ih.cnt;simp only [Sm.counts] at this ⊢;omega
  ·have := ih.dep;omega
  ·simp [Sm.deeps];omega
  ·simp;omega
  ·decide
theorem okE_good {e : Ex} (h : goodE 1 e) : okE e = true := by
 simp only [okE,Bool.and_eq_true,decide_eq_true_eq]
 exact ⟨by have := h.1;omega,h.2⟩
def Grew (s s' : Sm) : Prop := ∀ N,okL N [s] → okL (N + 20) [s']
theorem grew_kind {kd kd' : UInt8} {nm hd nm' hd' : Str} {ex : List Ex} {th el : List Sm} : Grew (.mk kd nm hd ex th el) (.mk kd' nm' hd' ex th el) := fun N h => by
 obtain ⟨h1,h2,h3,h4,h5,h6,h7⟩ := okL_one.1 h
 exact okL_one.2 ⟨by omega,by omega,by omega,by omega,h5,salls_imp (okS2_mono (by omega)) _ h6,salls_imp (okS2_mono (by omega)) _ h7⟩
theorem grew_add {kd : UInt8} {nm hd : Str} {ex : List Ex} {th el : List Sm} {e : Ex} (he : goodE 1 e) : Grew (.mk kd nm hd ex th el) (.mk kd nm hd (ex ++ [e]) th el) := fun N h => by
 obtain ⟨h1,h2,h3,h4,h5,h6,h7⟩ := okL_one.1 h
 exact okL_one.2 ⟨by omega,by omega,by omega,by rw [List.length_append,List.length_singleton];omega,by rw [List.all_append,h5];simp [okE_good he],salls_imp (okS2_mono (by omega)) _ h6,salls_imp (okS2_mono (by omega)) _ h7⟩
theorem grew_one {kd : UInt8} {nm hd : Str} {ex : List Ex} {th el : List Sm} {e : Ex} (he : goodE 1 e) : Grew (.mk kd nm hd ex th el) (.mk kd nm hd [e] th el) := fun N h => by
 obtain ⟨h1,h2,h3,h4,h5,h6,h7⟩ := okL_one.1 h
 exact okL_one.2 ⟨by omega,by omega,by omega,by simp,by simp [okE_good he],salls_imp (okS2_mono (by omega)) _ h6,salls_imp (okS2_mono (by omega)) _ h7⟩
theorem grew_then {kd : UInt8} {nm hd : Str} {ex : List Ex} {th el : List Sm} : Grew (.mk kd nm hd ex th el) (.mk kd nm hd ex [stopS] el) := fun N h => by
 obtain ⟨h1,h2,h3,h4,h5,h6,h7⟩ := okL_one.1 h
 have hs := okL_stop (N := N + 20) (by omega)
 exact okL_one.2 ⟨by have : Sm.counts [stopS] = 1 := by decide
                     omega, by have : Sm.deeps [stopS] = 1 := by decide
                               omega,by omega,by omega,h5,hs.all,salls_imp (okS2_mono (by omega)) _ h7⟩
theorem grew_else {kd : UInt8} {nm hd : Str} {ex : List Ex} {th el : List Sm} : Grew (.mk kd nm hd ex th el) (.mk kd nm hd ex th [stopS]) := fun N h => by
 obtain ⟨h1,h2,h3,h4,h5,h6,h7⟩ := okL_one.1 h
 have hs := okL_stop (N := N + 20) (by omega)
 exact okL_one.2 ⟨by have : Sm.counts [stopS] = 1 := by decide
                     omega, by omega, by have : Sm.deeps [stopS] = 1 := by decide
                                         omega,by omega,h5,salls_imp (okS2_mono (by omega)) _ h6,hs.all⟩
theorem grew_wrap {s : Sm} {n : Nat} (h : n < 13) : Grew s (wrapS n s) := fun N k => (okL_wrap k n).mono (by omega)
theorem grew_refl (s : Sm) : Grew s s := fun N k => k.mono (by omega)
structure okHd (N : Nat) (h : Hd) : Prop where
 ps : h.ps.length ≤ N
 body : okL N h.body
theorem okHd.mono {N M : Nat} {h : Hd} (k : okHd N h) (l : N ≤ M) : okHd M h := ⟨by have := k.ps;omega,k.body.mono l⟩
structure okV2 (N : Nat) (v : List Hd) : Prop where
 len : v.length ≤ N
 all : ∀ h ∈ v,okHd N h
theorem okV2.mono {N M : Nat} {v : List Hd} (k : okV2 N v) (l : N ≤ M) : okV2 M v := ⟨by have := k.len;omega,fun h m => (k.all h m).mono l⟩
theorem okV2.nil {N : Nat} : okV2 N [] := ⟨by simp,fun _ h => by cases h⟩
structure okCp (N : Nat) (c : Cp) : Prop where
 vars : c.vars.length ≤ N
 vers : c.vers.length ≤ N
 all : ∀ v ∈ c.vers,okV2 N v
theorem okCp.mono {N M : Nat} {c : Cp} (k : okCp N c) (l : N ≤ M) : okCp M c := ⟨by have := k.vars;omega,by have := k.vers;omega,fun v m => (k.all v m).mono l⟩
structure okFt (N : Nat) (f : Ft) : Prop where
 flags : f.flags.length ≤ N
 links : f.links.length ≤ N
 comps : f.comps.length ≤ N
 pos : 0 < f.comps.length
 all : ∀ c ∈ f.comps,okCp N c
theorem okFt.mono {N M : Nat} {f : Ft} (k : okFt N f) (l : N ≤ M) : okFt M f := ⟨by have := k.flags;omega,by have := k.links;omega,by have := k.comps;omega,k.pos,fun c m => (k.all c m).mono l⟩
theorem blk_of {c : UInt8} (h : (c.toNat : Int) = 32 ∨ (c.toNat : Int) = 9 ∨ (c.toNat : Int) = 10 ∨ (c.toNat : Int) = 13) : blkB c = true := by
 simp only [blkB,Bool.or_eq_true,decide_eq_true_eq,← UInt8.toNat_inj]
 rcases h with h | h | h | h
 ·exact .inl (.inl (.inl (by show c.toNat = 32;omega)))
 ·exact .inl (.inl (.inr (by show c.toNat = 9;omega)))
 ·exact .inl (.inr (by show c.toNat = 10;omega))
 ·exact .inr (by show c.toNat = 13;omega)
theorem nblk_of {c : UInt8} (h : ¬ ((c.toNat : Int) = 32 ∨ (c.toNat : Int) = 9 ∨ (c.toNat : Int) = 10 ∨ (c.toNat : Int) = 13)) : blkB c = false := by
 cases e : blkB c with
 | false => rfl
 | true =>
  refine absurd ?_ h
  simp only [blkB,Bool.or_eq_true,decide_eq_true_eq] at e
  rcases e with ((e | e) | e) | e <;> subst e <;> simp
theorem skip_blk {s R : Str} {k : Nat} (hk : k < s.length) (hb : blkB s[k] = true) (h : skipS false (s.drop k) = R) : skipS false (s.drop (k + 1)) = R := by
 rw [List.drop_eq_getElem_cons hk,skipS_blk hb] at h;exact h
theorem skip_in {s R : Str} {k : Nat} (hk : k + 1 < s.length) (h1 : (s[k].toNat : Int) = 47) (h2 : (s[k + 1].toNat : Int) = 47) (h : skipS false (s.drop k) = R) : skipS true (s.drop k) = R := by
 have e1 : s[k] = 47 := UInt8.toNat_inj.1 (by show s[k].toNat = 47;omega)
 have e2 : s[k + 1] = 47 := UInt8.toNat_inj.1 (by show s[k + 1].toNat = 47;omega)
 rw [List.drop_eq_getElem_cons (show k < s.length by omega),List.drop_eq_getElem_cons hk,e1,e2] at h ⊢
 rw [← skipS_two];exact h
theorem skip_com {s R : Str} {k : Nat} (hk : k < s.length) (hb : ¬ (s[k].toNat : Int) = 10) (h : skipS true (s.drop k) = R) : skipS true (s.drop (k + 1)) = R := by
 rw [List.drop_eq_getElem_cons hk,skipS_com (fun e => hb (by rw [e];rfl))] at h;exact h
theorem skip_out1 {s R : Str} {k : Nat} (hk : s.length ≤ k) (h : skipS true (s.drop k) = R) : skipS false (s.drop k) = R := by
 rw [List.drop_of_length_le hk,skipS_nil] at h ⊢;exact h
theorem skip_out2 {s R : Str} {k : Nat} (hk : k < s.length) (hb : (s[k].toNat : Int) = 10) (h : skipS true (s.drop k) = R) : skipS false (s.drop k) = R := by
 have e1 : s[k] = 10 := UInt8.toNat_inj.1 (by show s[k].toNat = 10;omega)
 rw [List.drop_eq_getElem_cons hk,e1] at h ⊢
 rw [← skipS_end];exact h
theorem stop_no {s : Str} {k : Nat} (hk : k < s.length) (hb : blkB s[k] = false) (h : ¬ (s[k].toNat : Int) = 47 ∨ ¬ k + 1 < s.length ∨ ∃ h : k + 1 < s.length,¬ (s[k + 1].toNat : Int) = 47) : skipS false (s.drop k) = s.drop k := by
 rw [List.drop_eq_getElem_cons hk]
 refine skipS_stop hb ?_
 rintro ⟨e1,e2⟩
 rcases h with h | h | ⟨h0,h⟩
 ·exact h (by rw [e1];rfl)
 ·rw [List.drop_of_length_le (by omega)] at e2;cases e2
 ·rw [List.drop_eq_getElem_cons h0] at e2
  exact h (by rw [Option.some.inj e2];rfl)
theorem stop_end {s : Str} {k : Nat} (hk : s.length ≤ k) : skipS false (s.drop k) = s.drop k := by rw [List.drop_of_length_le hk,skipS_nil]
theorem stop_val {s R : Str} {k : Nat} (hk : k ≤ s.length) (h : skipS false (s.drop k) = R) (h2 : skipS false (s.drop k) = s.drop k) : s.length - R.length = k := by
 rw [← h,h2,List.length_drop];omega
set_option maxRecDepth 100000 in
theorem skip_any (s : Str) (hl : s.length ≤ 1000000) (o : Nat) (ho : o ≤ s.length) (w : World) :
 Calls Tryz.prog 124 #[strV s,.int .i64 (o : Nat)] w fun r w' => r = .returned (.int .i64 ((s.length - (skipS false (s.drop o)).length : Nat) : Int)) ∧ Ext w w' := by
 refine Sx.enter (H := (fun _ => none)) Tryz.func124 rfl Tryz.ntmps124 rfl (fun _ _ e => by cases e) ?_
 refine .sr<|.a Z Z<|.nt<|.sq<|.bk<|.lp (X := Nat) [(0,_)] ⟨rfl,trivial⟩ [] (fun k => [(1,.int .i64 (k : Nat))]) (fun k => (fun _ => none)) (fun k => []) (fun k => k ≤ s.length ∧ skipS false (s.drop k) = skipS false (s.drop o)) (fun k => s.length - k) o (fun _ s => s) ⟨rfl,trivial⟩ ⟨ho,rfl⟩ fun k hC => ?_
 obtain ⟨hk0,hC2⟩ := hC
 refine .sq<|.sr<|.m Z Z<|.m Z Z<|.yv (.lenS Fx.str9 Z) Z<|.yv (.lss Z Z) Z<|.nt<|.cd Z (fun h8 => ?_) (fun h8 => ?_)
 ·try simp only [dt] at h8
  have hk : k < s.length := by omega
  refine .sk<|.tN<|.bk<|.sr<|.m Z Z<|.m Z Z<|.yv (.idxS Fx.str9 Z Z Z (b := s[k]) (j := k) (List.getElem?_eq_getElem hk)) Z<|.yv (.eql Z Z) Z<|.m Z Z<|.b2 (fun h13 => ?_) (fun h13 => ?_)
  ·try simp only [dt] at h13
   exact .gF Z Z Z Z<|.gF Z Z Z Z<|.gF Z Z Z Z<|.gF Z Z Z Z<|.yv (.pickT Z Z) Z<|.m Z Z<|.gF Z Z Z Z<|.gF Z Z Z Z<|.gF Z Z Z Z<|.gF Z Z Z Z<|.yv (.pickT Z Z) Z<|.m Z Z<|.gF Z Z Z Z<|.gF Z Z Z Z<|.gF Z Z Z Z<|.gF Z Z Z Z<|.yv (.pickT Z Z) Z<|.nt<|.cT Z<|.rg<|.m Z Z<|.yv (.add Z Z (w6 (by omega))) Z<|.a Z Z<|.nl<|.bN<|.tN<|.ag (k + 1) ⟨rfl,trivial⟩ ⟨rfl,trivial⟩ (fun _ s => s) ⟨by omega,skip_blk (by omega) (blk_of (by omega)) hC2⟩ (by first | omega | (have : j ≠ k := fun e => by subst e;omega);omega)
  try simp only [df] at h13
  refine .gd Z Z<|.yv (.move Z) Z<|.gd Z Z<|.yv (.move Z) Z<|.gd Z Z<|.yv (.idxS Fx.str9 Z Z Z (b := s[k]) (j := k) (List.getElem?_eq_getElem hk)) Z<|.gd Z Z<|.yv (.eql Z Z) Z<|.yv (.pickF Z Z) Z<|.m Z Z<|.b2 (fun h19 => ?_) (fun h19 => ?_)
  ·try simp only [dt] at h19
   exact .gF Z Z Z Z<|.gF Z Z Z Z<|.gF Z Z Z Z<|.gF Z Z Z Z<|.yv (.pickT Z Z) Z<|.m Z Z<|.gF Z Z Z Z<|.gF Z Z Z Z<|.gF Z Z Z Z<|.gF Z Z Z Z<|.yv (.pickT Z Z) Z<|.nt<|.cT Z<|.rg<|.m Z Z<|.yv (.add Z Z (w6 (by omega))) Z<|.a Z Z<|.nl<|.bN<|.tN<|.ag (k + 1) ⟨rfl,trivial⟩ ⟨rfl,trivial⟩ (fun _ s => s) ⟨by omega,skip_blk (by omega) (blk_of (by omega)) hC2⟩ (by first | omega | (have : j ≠ k := fun e => by subst e;omega);omega)
  try simp only [df] at h19
  refine .gd Z Z<|.yv (.move Z) Z<|.gd Z Z<|.yv (.move Z) Z<|.gd Z Z<|.yv (.idxS Fx.str9 Z Z Z (b := s[k]) (j := k) (List.getElem?_eq_getElem hk)) Z<|.gd Z Z<|.yv (.eql Z Z) Z<|.yv (.pickF Z Z) Z<|.m Z Z<|.b2 (fun h25 => ?_) (fun h25 => ?_)
  ·try simp only [dt] at h25
   exact .gF Z Z Z Z<|.gF Z Z Z Z<|.gF Z Z Z Z<|.gF Z Z Z Z<|.yv (.pickT Z Z) Z<|.nt<|.cT Z<|.rg<|.m Z Z<|.yv (.add Z Z (w6 (by omega))) Z<|.a Z Z<|.nl<|.bN<|.tN<|.ag (k + 1) ⟨rfl,trivial⟩ ⟨rfl,trivial⟩ (fun _ s => s) ⟨by omega,skip_blk (by omega) (blk_of (by omega)) hC2⟩ (by first | omega | (have : j ≠ k := fun e => by subst e;omega);omega)
  try simp only [df] at h25
  refine .gd Z Z<|.yv (.move Z) Z<|.gd Z Z<|.yv (.move Z) Z<|.gd Z Z<|.yv (.idxS Fx.str9 Z Z Z (b := s[k]) (j := k) (List.getElem?_eq_getElem hk)) Z<|.gd Z Z<|.yv (.eql Z Z) Z<|.yv (.pickF Z Z) Z<|.nt<|.cd Z (fun h30 => ?_) (fun h30 => ?_)
  ·try simp only [dt] at h30
   exact .rg<|.m Z Z<|.yv (.add Z Z (w6 (by omega))) Z<|.a Z Z<|.nl<|.bN<|.tN<|.ag (k + 1) ⟨rfl,trivial⟩ ⟨rfl,trivial⟩ (fun _ s => s) ⟨by omega,skip_blk (by omega) (blk_of (by omega)) hC2⟩ (by first | omega | (have : j ≠ k := fun e => by subst e;omega);omega)
  try simp only [df] at h30
  refine .sr<|.m Z Z<|.yv (.add Z Z (w6 (by omega))) Z<|.m Z Z<|.yv (.lenS Fx.str9 Z) Z<|.yv (.lss Z Z) Z<|.m Z Z<|.b2 (fun h38 => ?_) (fun h38 => ?_)
  ·try simp only [dt] at h38
   have hk1 : k + 1 < s.length := by omega
   refine .gd Z Z<|.yv (.move Z) Z<|.gd Z Z<|.yv (.move Z) Z<|.gd Z Z<|.yv (.idxS Fx.str9 Z Z Z (b := s[k]) (j := k) (List.getElem?_eq_getElem hk)) Z<|.gd Z Z<|.yv (.eql Z Z) Z<|.yv (.pickT Z Z) Z<|.m Z Z<|.b2 (fun h44 => ?_) (fun h44 => ?_)
   ·try simp only [dt] at h44
    refine .gd Z Z<|.yv (.move Z) Z<|.gd Z Z<|.yv (.move Z) Z<|.gd Z Z<|.yv (.add Z Z (w6 (by omega))) Z<|.gd Z Z<|.yv (.idxS Fx.str9 Z Z (by omega) (b := s[(k + 1)]) (j := (k + 1)) (List.getElem?_eq_getElem hk1)) Z<|.gd Z Z<|.yv (.eql Z Z) Z<|.yv (.pickT Z Z) Z<|.nt<|.cd Z (fun h50 => ?_) (fun h50 => ?_)
    ·try simp only [dt] at h50
     refine .bk<|.lp (X := Nat) [(0,_)] ⟨rfl,trivial⟩ [] (fun j => [(1,.int .i64 (j : Nat))]) (fun j => (fun _ => none)) (fun j => []) (fun j => k ≤ j ∧ j ≤ s.length ∧ skipS true (s.drop j) = skipS false (s.drop o)) (fun j => s.length - j) k (fun _ s => s) ⟨rfl,trivial⟩ ⟨by omega,by omega,skip_in (by omega) (by omega) (by omega) hC2⟩ fun j hC => ?_
     obtain ⟨hj0,hj1,hC3⟩ := hC
     refine .sq<|.sr<|.m Z Z<|.m Z Z<|.yv (.lenS Fx.str9 Z) Z<|.yv (.lss Z Z) Z<|.m Z Z<|.b2 (fun h55 => ?_) (fun h55 => ?_)
     ·try simp only [dt] at h55
      have hj : j < s.length := by omega
      refine .gd Z Z<|.yv (.move Z) Z<|.gd Z Z<|.yv (.move Z) Z<|.gd Z Z<|.yv (.idxS Fx.str9 Z Z Z (b := s[j]) (j := j) (List.getElem?_eq_getElem hj)) Z<|.gd Z Z<|.yv (.neq Z Z) Z<|.yv (.pickT Z Z) Z<|.nt<|.cd Z (fun h60 => ?_) (fun h60 => ?_)
      ·try simp only [dt] at h60
       exact .sk<|.tN<|.bk<|.rg<|.m Z Z<|.yv (.add Z Z (w6 (by omega))) Z<|.a Z Z<|.nl<|.bN<|.tN<|.ag (j + 1) ⟨rfl,trivial⟩ ⟨rfl,trivial⟩ (fun _ s => s) ⟨by omega,by omega,skip_com (by omega) (by omega) hC3⟩ (by omega)
      try simp only [df] at h60
      exact .ex<|.tE<|.tE<|.bE<|.bN<|.tN<|.ag j ⟨rfl,trivial⟩ ⟨rfl,trivial⟩ (fun _ s => s) ⟨by omega,by first | exact skip_out1 (by omega) hC3 | exact skip_out2 (show j < s.length by omega) (by omega) hC3⟩ (by first | omega | (have : j ≠ k := fun e => by subst e;omega);omega)
     try simp only [df] at h55
     exact .gF Z Z Z Z<|.gF Z Z Z Z<|.gF Z Z Z Z<|.gF Z Z Z Z<|.yv (.pickF Z Z) Z<|.nt<|.cF Z<|.ex<|.tE<|.tE<|.bE<|.bN<|.tN<|.ag j ⟨rfl,trivial⟩ ⟨rfl,trivial⟩ (fun _ s => s) ⟨by omega,by first | exact skip_out1 (by omega) hC3 | exact skip_out2 (show j < s.length by omega) (by omega) hC3⟩ (by first | omega | (have : j ≠ k := fun e => by subst e;omega);omega)
    try simp only [df] at h50
    refine .sr<|.m Z Z<|.a Z Z<|.nt<|.rt<|.bR<|.tR<|.bR<|.tR<|?_
    refine Sx.ret1 (.inl rfl) rfl (.tmp rfl) fun W s => ⟨?_,s.ext⟩
    first
     | (rw [stop_val hk0 hC2 (stop_no hk (nblk_of (by omega)) (.inl (by omega)))])
     | (rw [stop_val hk0 hC2 (stop_no hk (nblk_of (by omega)) (.inr (.inl (by omega))))])
     | (rw [stop_val hk0 hC2 (stop_no hk (nblk_of (by omega)) (.inr (.inr ⟨hk1,by omega⟩)))])
     | (rw [stop_val hk0 hC2 (stop_end (by omega))])
   try simp only [df] at h44
   refine .gF Z Z Z Z<|.gF Z Z Z Z<|.gF Z Z Z Z<|.gF Z Z Z Z<|.gF Z Z Z Z<|.yv (.pickF Z Z) Z<|.nt<|.cF Z<|.sr<|.m Z Z<|.a Z Z<|.nt<|.rt<|.bR<|.tR<|.bR<|.tR<|?_
   refine Sx.ret1 (.inl rfl) rfl (.tmp rfl) fun W s => ⟨?_,s.ext⟩
   first
    | (rw [stop_val hk0 hC2 (stop_no hk (nblk_of (by omega)) (.inl (by omega)))])
    | (rw [stop_val hk0 hC2 (stop_no hk (nblk_of (by omega)) (.inr (.inl (by omega))))])
    | (rw [stop_val hk0 hC2 (stop_no hk (nblk_of (by omega)) (.inr (.inr ⟨hk1,by omega⟩)))])
    | (rw [stop_val hk0 hC2 (stop_end (by omega))])
  try simp only [df] at h38
  refine .gF Z Z Z Z<|.gF Z Z Z Z<|.gF Z Z Z Z<|.gF Z Z Z Z<|.yv (.pickF Z Z) Z<|.m Z Z<|.gF Z Z Z Z<|.gF Z Z Z Z<|.gF Z Z Z Z<|.gF Z Z Z Z<|.gF Z Z Z Z<|.yv (.pickF Z Z) Z<|.nt<|.cF Z<|.sr<|.m Z Z<|.a Z Z<|.nt<|.rt<|.bR<|.tR<|.bR<|.tR<|?_
  refine Sx.ret1 (.inl rfl) rfl (.tmp rfl) fun W s => ⟨?_,s.ext⟩
  first
   | (rw [stop_val hk0 hC2 (stop_no hk (nblk_of (by omega)) (.inl (by omega)))])
   | (rw [stop_val hk0 hC2 (stop_no hk (nblk_of (by omega)) (.inr (.inl (by omega))))])
   | (rw [stop_val hk0 hC2 (stop_no hk (nblk_of (by omega)) (.inr (.inr ⟨hk1,by omega⟩)))])
   | (rw [stop_val hk0 hC2 (stop_end (by omega))])
 try simp only [df] at h8
 obtain rfl : k = s.length := by omega
 refine .ex<|.tE<|.tE<|.bE<|.tN<|.sr<|.m Z Z<|.a Z Z<|.nt<|.rt<|?_
 refine Sx.ret1 (.inl rfl) rfl (.tmp rfl) fun W s => ⟨?_,s.ext⟩
 first
  | (rw [stop_val hk0 hC2 (stop_no hk (nblk_of (by omega)) (.inl (by omega)))])
  | (rw [stop_val hk0 hC2 (stop_no hk (nblk_of (by omega)) (.inr (.inl (by omega))))])
  | (rw [stop_val hk0 hC2 (stop_no hk (nblk_of (by omega)) (.inr (.inr ⟨hk1,by omega⟩)))])
  | (rw [stop_val hk0 hC2 (stop_end (by omega))])
set_option maxRecDepth 100000 in
theorem keywordsR_any (H : Hp) (w : World) (hA : Agr H w) : Calls Tryz.prog 141 #[] w fun r w' => ∃ (b : Nat) (H' : Hp),MemAt H' b 0 (words.map strV) ∧ r = .returned (.slice (some ⟨b,0,none⟩) 39 39) ∧ Grow H w H' w' := by
 refine Sx.enter (H := H) Tryz.func141 rfl Tryz.ntmps141 rfl hA ?_
 refine .sr<|.a Z Z<|.ns<|.bl Z (Fx.bsl66_39 _ _ _ _ _ _ _ _ _ _ _ _ _ _ _ _ _ _ _ _ _ _ _ _ _ _ _ _ _ _ _ _ _ _ _ _ _ _ _) Z fun b1 => ?_
 refine Sx.freezeBox fun H1 u1 m1 => ?_
 refine .a Z Z<|.nt<|.rt<|?_
 exact Sx.ret1 (.inl rfl) rfl (.tmp rfl) fun W s => ⟨b1,H1,m1,rfl,u1.grow s⟩
set_option maxRecDepth 100000 in
theorem symbolsR_any (H : Hp) (w : World) (hA : Agr H w) : Calls Tryz.prog 142 #[] w fun r w' => ∃ (b : Nat) (H' : Hp),MemAt H' b 0 (symbols.map strV) ∧ r = .returned (.slice (some ⟨b,0,none⟩) 25 25) ∧ Grow H w H' w' := by
 refine Sx.enter (H := H) Tryz.func142 rfl Tryz.ntmps142 rfl hA ?_
 refine .sr<|.a Z Z<|.ns<|.bl Z (Fx.bsl66_25 _ _ _ _ _ _ _ _ _ _ _ _ _ _ _ _ _ _ _ _ _ _ _ _ _) Z fun b1 => ?_
 refine Sx.freezeBox fun H1 u1 m1 => ?_
 refine .a Z Z<|.nt<|.rt<|?_
 exact Sx.ret1 (.inl rfl) rfl (.tmp rfl) fun W s => ⟨b1,H1,m1,rfl,u1.grow s⟩
theorem ins_of {c : UInt8} (h : letB c = true ∨ digB c = true ∨ (c.toNat : Int) = 95) : insB c = true := by
 simp only [insB,Bool.or_eq_true,decide_eq_true_eq]
 rcases h with h | h | h
 ·exact .inl (.inl h)
 ·exact .inl (.inr h)
 ·exact .inr (by omega)
theorem nins_of {c : UInt8} (h1 : letB c = false) (h2 : digB c = false) (h3 : ¬ (c.toNat : Int) = 95) : insB c = false := by
 simp only [insB,Bool.or_eq_false_iff,decide_eq_false_iff_not]
 exact ⟨⟨h1,h2⟩,by omega⟩
theorem pre_end {q : UInt8 → Bool} {l : Str} {k : Nat} (h : k ≤ pre q l) (hk : ¬ k < l.length) : k = pre q l := by
 have := pre_le q l;omega
theorem mid_take (s : Str) (o n : Nat) : (s.take (o + n)).drop o = (s.drop o).take n := by
 rw [List.drop_take,Nat.add_sub_cancel_left]
theorem sym_take {l x : Str} (h : symbols.find? (fun x => x.isPrefixOf l) = some x) : l.take x.length = x := by
 have h1 := List.find?_some (p := fun (x : Str) => x.isPrefixOf l) h
 obtain ⟨t,ht⟩ := List.isPrefixOf_iff_prefix.1 h1
 rw [← ht,List.take_left]
theorem word_in {l : Str} {k : Nat} (hk : k < 39) (h : words.getD k [] = l) : words.contains l = true := by
 rw [List.contains_iff_mem,← h,getD_at (show k < words.length from hk)]
 exact List.getElem_mem _
theorem word_no {l : Str} (h : ∀ j,j < 39 → words.getD j [] ≠ l) : words.contains l = false := by
 rw [Bool.eq_false_iff,Ne,List.contains_iff_mem]
 intro hm
 obtain ⟨j,hj,e⟩ := List.mem_iff_getElem.1 hm
 exact h j hj (by rw [getD_at hj];exact e)
set_option maxRecDepth 100000 in
theorem next_any (H : Hp) (s : Str) (hl : s.length ≤ 1000000) (o : Nat) (ho : o < s.length) (w : World) (hA : Agr H w) :
 Calls Tryz.prog 125 #[strV s,.int .i64 (o : Nat)] w fun r w' => r = .returned (.agg [.int .i64 ((readK (s.drop o)).1.toNat : Nat),strV ((s.drop o).take (readK (s.drop o)).2),.int .i64 (o : Nat)].toArray) ∧ Ext w w' := by
 obtain ⟨l,hm⟩ : ∃ l,l = s.drop o := ⟨_,rfl⟩
 rw [← hm]
 have hlen : o + l.length = s.length := by rw [hm,List.length_drop];omega
 have hget : ∀ k (h : k < l.length),s[o + k]? = some l[k] := fun k h => by rw [← List.getElem?_drop,← hm,List.getElem?_eq_getElem h]
 cases l with
 | nil => simp only [List.length_nil] at hlen;omega
 | cons c m =>
 have hlen2 : (c :: m).length = m.length + 1 := rfl
 refine Sx.enter (H := H) Tryz.func125 rfl Tryz.ntmps125 rfl hA ?_
 refine .sr<|.al Fx.zero200 Z fun b4 => .ns<|.m Z Z<|.a Z Z<|.nt<|.sq<|.sr<|.m Z Z<|.m Z Z<|.yv (.idxS Fx.str9 Z Z Z (b := c) (j := o) (by rw [← Nat.add_zero o];exact hget 0 (by simp))) Z<|.yv (.call Fx.call139 Z (fun W s => rletter_any _ W)) Z<|.nt<|.cd Z (fun h15 => ?_) (fun h15 => ?_)
 ·skip
  refine .cu (X := Unit) [(0,_),(1,_),(4,_)] ⟨rfl,rfl,rfl,trivial⟩ (fun z => [(5,.int .i64 ((o + pre insB (c :: m) : Nat) : Int))]) (fun z => H) (fun z => [.box b4 [.int .i64 0,.string ⟨#[]⟩,.int .i64 0] 200]) (fun z => True) ?_ fun z hC => ?_
  ·
   refine .bk<|.lp (X := Nat) [(0,_),(1,_),(4,_)] ⟨rfl,rfl,rfl,trivial⟩ [_] (fun k => [(5,.int .i64 ((o + k : Nat) : Int))]) (fun k => H) (fun k => []) (fun k => k ≤ pre insB (c :: m)) (fun k => pre insB (c :: m) - k) 0 (fun _ s => s) ⟨rfl,trivial⟩ (by omega) fun k hC => ?_
   refine .sq<|.sr<|.m Z Z<|.m Z Z<|.yv (.lenS Fx.str9 Z) Z<|.yv (.lss Z Z) Z<|.m Z Z<|.b2 (fun h20 => ?_) (fun h20 => ?_)
   ·try simp only [dt] at h20
    have hk : k < (c :: m).length := by omega
    refine .gd Z Z<|.yv (.move Z) Z<|.gd Z Z<|.yv (.move Z) Z<|.gd Z Z<|.yv (.idxS Fx.str9 Z Z Z (b := (c :: m)[k]) (j := o + k) (hget k hk)) Z<|.gd Z Z<|.yv (.call Fx.call139 Z (fun W s => rletter_any _ W)) Z<|.gd Z Z<|.yv (.move Z) Z<|.b2 (fun h25 => ?_) (fun h25 => ?_)
    ·skip
     exact .gF Z Z Z Z<|.gF Z Z Z Z<|.gF Z Z Z Z<|.gF Z Z Z Z<|.gd Z Z<|.yv (.pickT Z Z) Z<|.gd Z Z<|.yv (.move Z) Z<|.gF Z Z Z Z<|.gF Z Z Z Z<|.gF Z Z Z Z<|.gF Z Z Z Z<|.gd Z Z<|.yv (.pickT Z Z) Z<|.yv (.pickT Z Z) Z<|.nt<|.cT Z<|.sk<|.tN<|.bk<|.rg<|.m Z Z<|.yv (.add Z Z (c := ((o + (k + 1) : Nat) : Int)) ((w6 (by omega)).trans (by omega))) Z<|.a Z Z<|.nl<|.bN<|.tN<|.ag (k + 1) ⟨rfl,trivial⟩ ⟨rfl,rfl,rfl,trivial⟩ (fun _ s => s) (pre_step hk hC (ins_of (by first | exact .inl (by assumption) | exact .inr (.inl (by assumption)) | exact .inr (.inr (by omega))))) (by have := pre_step hk hC (ins_of (by first | exact .inl (by assumption) | exact .inr (.inl (by assumption)) | exact .inr (.inr (by omega))));omega)
    skip
    refine .gd Z Z<|.yv (.move Z) Z<|.gd Z Z<|.yv (.move Z) Z<|.gd Z Z<|.yv (.idxS Fx.str9 Z Z Z (b := (c :: m)[k]) (j := o + k) (hget k hk)) Z<|.gd Z Z<|.yv (.call Fx.call140 Z (fun W s => rdigit_any _ W)) Z<|.gd Z Z<|.yv (.pickF Z Z) Z<|.gd Z Z<|.yv (.move Z) Z<|.b2 (fun h31 => ?_) (fun h31 => ?_)
    ·skip
     exact .gF Z Z Z Z<|.gF Z Z Z Z<|.gF Z Z Z Z<|.gF Z Z Z Z<|.gd Z Z<|.yv (.pickT Z Z) Z<|.yv (.pickT Z Z) Z<|.nt<|.cT Z<|.sk<|.tN<|.bk<|.rg<|.m Z Z<|.yv (.add Z Z (c := ((o + (k + 1) : Nat) : Int)) ((w6 (by omega)).trans (by omega))) Z<|.a Z Z<|.nl<|.bN<|.tN<|.ag (k + 1) ⟨rfl,trivial⟩ ⟨rfl,rfl,rfl,trivial⟩ (fun _ s => s) (pre_step hk hC (ins_of (by first | exact .inl (by assumption) | exact .inr (.inl (by assumption)) | exact .inr (.inr (by omega))))) (by have := pre_step hk hC (ins_of (by first | exact .inl (by assumption) | exact .inr (.inl (by assumption)) | exact .inr (.inr (by omega))));omega)
    skip
    refine .gd Z Z<|.yv (.move Z) Z<|.gd Z Z<|.yv (.move Z) Z<|.gd Z Z<|.yv (.idxS Fx.str9 Z Z Z (b := (c :: m)[k]) (j := o + k) (hget k hk)) Z<|.gd Z Z<|.yv (.eql Z Z) Z<|.gd Z Z<|.yv (.pickF Z Z) Z<|.yv (.pickT Z Z) Z<|.nt<|.cd Z (fun h37 => ?_) (fun h37 => ?_)
    ·try simp only [dt] at h37
     exact .sk<|.tN<|.bk<|.rg<|.m Z Z<|.yv (.add Z Z (c := ((o + (k + 1) : Nat) : Int)) ((w6 (by omega)).trans (by omega))) Z<|.a Z Z<|.nl<|.bN<|.tN<|.ag (k + 1) ⟨rfl,trivial⟩ ⟨rfl,rfl,rfl,trivial⟩ (fun _ s => s) (pre_step hk hC (ins_of (by first | exact .inl (by assumption) | exact .inr (.inl (by assumption)) | exact .inr (.inr (by omega))))) (by have := pre_step hk hC (ins_of (by first | exact .inl (by assumption) | exact .inr (.inl (by assumption)) | exact .inr (.inr (by omega))));omega)
    try simp only [df] at h37
    exact .ex<|.tE<|.tE<|.bE<|.tN<|.me () ⟨(by first | (rw [← pre_end hC (by omega)];rfl) | (rw [← pre_stop hk hC (by first | exact nins_of (by assumption) (by assumption) (by omega) | assumption)];rfl)),trivial⟩ ⟨rfl,rfl,rfl,trivial⟩ (fun _ s => s) trivial
   try simp only [df] at h20
   skip
   exact .gF Z Z Z Z<|.gF Z Z Z Z<|.gF Z Z Z Z<|.gF Z Z Z Z<|.gF Z Z Z Z<|.gU Z Z Z<|.gU Z Z Z<|.gU Z Z Z<|.gU Z Z Z<|.gF Z Z Z Z<|.gF Z Z Z Z<|.gU Z Z Z<|.gU Z Z Z<|.gU Z Z Z<|.gU Z Z Z<|.gF Z Z Z Z<|.yv (.pickF Z Z) Z<|.nt<|.cF Z<|.ex<|.tE<|.tE<|.bE<|.tN<|.me () ⟨(by first | (rw [← pre_end hC (by omega)];rfl) | (rw [← pre_stop hk hC (by first | exact nins_of (by assumption) (by assumption) (by omega) | assumption)];rfl)),trivial⟩ ⟨rfl,rfl,rfl,trivial⟩ (fun _ s => s) trivial
  refine .sr<|.m Z Z<|.m Z Z<|.m Z Z<|.yv (.cast (.midS Fx.str9 Z Z Z Z Z (by omega) (by have := pre_le insB (c :: m);omega)) (by rw [mid_take,← hm])) Z<|.a Z Z<|.nt<|.sq<|.sr<|.ct (X := Nat) Fx.call141 Z (fun W s => keywordsR_any H W s.agr) Z fun b44 H1 m1 u1 => .yv (.lenSl Fx.sl66 Z) Z<|.m Z Z<|.nt<|.bk<|.lp (X := Nat) [(0,_),(1,_),(4,_),(5,_),(6,_),(44,_),(45,_)] ⟨rfl,rfl,rfl,rfl,rfl,rfl,rfl,trivial⟩ [_] (fun k => [(46,.int .i64 (k : Nat))]) (fun k => H1) (fun k => []) (fun k => k ≤ 39 ∧ ∀ j,j < k → words.getD j [] ≠ ((c :: m).take (pre insB (c :: m)))) (fun k => 39 - k) 0 (fun _ s => s) ⟨rfl,trivial⟩ ⟨by omega,fun j hj => by omega⟩ fun k hC => ?_
  obtain ⟨hk0,hne⟩ := hC
  refine .sr<|.yv (.lss Z Z) Z<|.nt<|.sq<|.cd Z (fun h47 => ?_) (fun h47 => ?_)
  ·try simp only [dt] at h47
   refine .sk<|.tN<|.sq<|.bk<|.sr<|.yv (.indexSl Fx.sl66 Z Z Z (by omega) (q := k) (by omega)) Z<|.yv (.loadM Z Fx.agg9 m1 (k := k) (by omega) (list_at (by show k < 39;omega) [])) Z<|.a Z Z<|.ns<|.m Z Z<|.m Z Z<|.yv (.eqS Z Z) Z<|.nt<|.cd Z (fun h52 => ?_) (fun h52 => ?_)
   ·try simp only [dt] at h52
    have hw := word_in (by omega) h52
    refine .sr<|.m Z Z<|.m Z Z<|.yv (.build Z (Fx.bld200_0_1_2 _ _ _)) Z<|.sW .head Z Z Fx.size200 (by simp [Value.oneCell',strV]) Z<|.nt<|.rt<|.bR<|.tR<|.tR<|.bR<|.tR<|.tR<|?_
    refine Sx.ret1 (.inl rfl) rfl (.cell rfl Fx.agg200 (.head _) rfl) fun W s => ⟨?_,(u1.grow s).ext⟩
    first
     | (simp only [readK,List.headD_cons,h15,hw,if_true,if_false,Bool.false_eq_true];rfl)
     | (simp only [readK,List.headD_cons,h15,hw,if_true,if_false,Bool.false_eq_true,List.take_length];rfl)
     | (simp only [readK,List.headD_cons,h15,hw,hw9,if_true,if_false,Bool.false_eq_true];rfl)
     | (simp only [readK,List.headD_cons,h15,hw,hw9,if_true,if_false,Bool.false_eq_true,List.take_length];rfl)
     | (simp only [readK,List.headD_cons,h15,h71,hor,if_true,if_false,Bool.false_eq_true];rfl)
     | (simp only [readK,List.headD_cons,h15,h71,hor,if_true,if_false,Bool.false_eq_true,List.take_length];rfl)
     | (simp only [readK,List.headD_cons,h15,h71,hfind,if_true,if_false,Bool.false_eq_true];rfl)
     | (simp only [readK,List.headD_cons,h15,h71,hfind,if_true,if_false,Bool.false_eq_true,List.take_length];rfl)
     | (simp only [readK,List.headD_cons,h15,h71,hfind,if_true,if_false,Bool.false_eq_true,sym_take hfind];rfl)
     | (simp only [readK,List.headD_cons,h15,h71,hfind,if_true,if_false,Bool.false_eq_true,List.take_length];rfl)
   try simp only [df] at h52
   exact .sk<|.bN<|.tN<|.rg<|.yv (.add Z Z (w6 (by omega))) Z<|.m Z Z<|.nt<|.ag (k + 1) ⟨rfl,trivial⟩ ⟨rfl,rfl,rfl,rfl,rfl,rfl,rfl,trivial⟩ (fun _ s => s) ⟨by omega,fun j hj => by
   by_cases e : j = k
   ·subst e;exact h52
   ·exact hne j (by omega)⟩ (by omega)
  try simp only [df] at h47
  have hw := word_no (fun j hj => hne j (by omega))
  refine .ex<|.tE<|.tE<|.bE<|.tN<|.sq<|.sr<|.m Z Z<|.yv (.lenS Fx.str9 Z) Z<|.yv (.leq Z Z) Z<|.nt<|.cd Z (fun h59 => ?_) (fun h59 => ?_)
  ·try simp only [dt] at h59
   have hw9 : pre insB (c :: m) ≤ 12 := by have := pre_le insB (c :: m);rw [List.length_take] at h59;omega
   refine .sr<|.m Z Z<|.m Z Z<|.yv (.build Z (Fx.bld200_0_1_2 _ _ _)) Z<|.sW .head Z Z Fx.size200 (by simp [Value.oneCell',strV]) Z<|.nt<|.rt<|.tR<|.tR<|?_
   refine Sx.ret1 (.inl rfl) rfl (.cell rfl Fx.agg200 (.head _) rfl) fun W s => ⟨?_,(u1.grow s).ext⟩
   first
    | (simp only [readK,List.headD_cons,h15,hw,if_true,if_false,Bool.false_eq_true];rfl)
    | (simp only [readK,List.headD_cons,h15,hw,if_true,if_false,Bool.false_eq_true,List.take_length];rfl)
    | (simp only [readK,List.headD_cons,h15,hw,hw9,if_true,if_false,Bool.false_eq_true];rfl)
    | (simp only [readK,List.headD_cons,h15,hw,hw9,if_true,if_false,Bool.false_eq_true,List.take_length];rfl)
    | (simp only [readK,List.headD_cons,h15,h71,hor,if_true,if_false,Bool.false_eq_true];rfl)
    | (simp only [readK,List.headD_cons,h15,h71,hor,if_true,if_false,Bool.false_eq_true,List.take_length];rfl)
    | (simp only [readK,List.headD_cons,h15,h71,hfind,if_true,if_false,Bool.false_eq_true];rfl)
    | (simp only [readK,List.headD_cons,h15,h71,hfind,if_true,if_false,Bool.false_eq_true,List.take_length];rfl)
    | (simp only [readK,List.headD_cons,h15,h71,hfind,if_true,if_false,Bool.false_eq_true,sym_take hfind];rfl)
    | (simp only [readK,List.headD_cons,h15,h71,hfind,if_true,if_false,Bool.false_eq_true,List.take_length];rfl)
  try simp only [df] at h59
  have hw9 : ¬ pre insB (c :: m) ≤ 12 := by have := pre_le insB (c :: m);rw [List.length_take] at h59;omega
  refine .sk<|.tN<|.sr<|.m Z Z<|.m Z Z<|.yv (.cast (.dropS Fx.str9 Z Z Z (by omega)) (by rw [← hm])) Z<|.m Z Z<|.yv (.build Z (Fx.bld200_0_1_2 _ _ _)) Z<|.sW .head Z Z Fx.size200 (by simp [Value.oneCell',strV]) Z<|.nt<|.rt<|.tR<|?_
  refine Sx.ret1 (.inl rfl) rfl (.cell rfl Fx.agg200 (.head _) rfl) fun W s => ⟨?_,(u1.grow s).ext⟩
  first
   | (simp only [readK,List.headD_cons,h15,hw,if_true,if_false,Bool.false_eq_true];rfl)
   | (simp only [readK,List.headD_cons,h15,hw,if_true,if_false,Bool.false_eq_true,List.take_length];rfl)
   | (simp only [readK,List.headD_cons,h15,hw,hw9,if_true,if_false,Bool.false_eq_true];rfl)
   | (simp only [readK,List.headD_cons,h15,hw,hw9,if_true,if_false,Bool.false_eq_true,List.take_length];rfl)
   | (simp only [readK,List.headD_cons,h15,h71,hor,if_true,if_false,Bool.false_eq_true];rfl)
   | (simp only [readK,List.headD_cons,h15,h71,hor,if_true,if_false,Bool.false_eq_true,List.take_length];rfl)
   | (simp only [readK,List.headD_cons,h15,h71,hfind,if_true,if_false,Bool.false_eq_true];rfl)
   | (simp only [readK,List.headD_cons,h15,h71,hfind,if_true,if_false,Bool.false_eq_true,List.take_length];rfl)
   | (simp only [readK,List.headD_cons,h15,h71,hfind,if_true,if_false,Bool.false_eq_true,sym_take hfind];rfl)
   | (simp only [readK,List.headD_cons,h15,h71,hfind,if_true,if_false,Bool.false_eq_true,List.take_length];rfl)
 skip
 refine .sk<|.tN<|.sq<|.sr<|.m Z Z<|.m Z Z<|.yv (.idxS Fx.str9 Z Z Z (b := c) (j := o) (by rw [← Nat.add_zero o];exact hget 0 (by simp))) Z<|.yv (.call Fx.call140 Z (fun W s => rdigit_any _ W)) Z<|.nt<|.cd Z (fun h71 => ?_) (fun h71 => ?_)
 ·skip
  refine .cu (X := Unit) [(0,_),(1,_),(4,_)] ⟨rfl,rfl,rfl,trivial⟩ (fun z => [(5,.int .i64 ((o + pre digB (c :: m) : Nat) : Int))]) (fun z => H) (fun z => [.box b4 [.int .i64 0,.string ⟨#[]⟩,.int .i64 0] 200]) (fun z => True) ?_ fun z hC => ?_
  ·
   refine .bk<|.lp (X := Nat) [(0,_),(1,_),(4,_)] ⟨rfl,rfl,rfl,trivial⟩ [_] (fun k => [(5,.int .i64 ((o + k : Nat) : Int))]) (fun k => H) (fun k => []) (fun k => k ≤ pre digB (c :: m)) (fun k => pre digB (c :: m) - k) 0 (fun _ s => s) ⟨rfl,trivial⟩ (by omega) fun k hC => ?_
   refine .sq<|.sr<|.m Z Z<|.m Z Z<|.yv (.lenS Fx.str9 Z) Z<|.yv (.lss Z Z) Z<|.m Z Z<|.b2 (fun h76 => ?_) (fun h76 => ?_)
   ·try simp only [dt] at h76
    have hk : k < (c :: m).length := by omega
    refine .gd Z Z<|.yv (.move Z) Z<|.gd Z Z<|.yv (.move Z) Z<|.gd Z Z<|.yv (.idxS Fx.str9 Z Z Z (b := (c :: m)[k]) (j := o + k) (hget k hk)) Z<|.gd Z Z<|.yv (.call Fx.call140 Z (fun W s => rdigit_any _ W)) Z<|.yv (.pickT Z Z) Z<|.nt<|.cd Z (fun h81 => ?_) (fun h81 => ?_)
    ·skip
     exact .sk<|.tN<|.bk<|.rg<|.m Z Z<|.yv (.add Z Z (c := ((o + (k + 1) : Nat) : Int)) ((w6 (by omega)).trans (by omega))) Z<|.a Z Z<|.nl<|.bN<|.tN<|.ag (k + 1) ⟨rfl,trivial⟩ ⟨rfl,rfl,rfl,trivial⟩ (fun _ s => s) (pre_step hk hC (by assumption)) (by have := pre_step hk hC (by assumption);omega)
    skip
    exact .ex<|.tE<|.tE<|.bE<|.tN<|.me () ⟨(by first | (rw [← pre_end hC (by omega)];rfl) | (rw [← pre_stop hk hC (by first | exact nins_of (by assumption) (by assumption) (by omega) | assumption)];rfl)),trivial⟩ ⟨rfl,rfl,rfl,trivial⟩ (fun _ s => s) trivial
   try simp only [df] at h76
   skip
   exact .gF Z Z Z Z<|.gF Z Z Z Z<|.gF Z Z Z Z<|.gF Z Z Z Z<|.yv (.pickF Z Z) Z<|.nt<|.cF Z<|.ex<|.tE<|.tE<|.bE<|.tN<|.me () ⟨(by first | (rw [← pre_end hC (by omega)];rfl) | (rw [← pre_stop hk hC (by first | exact nins_of (by assumption) (by assumption) (by omega) | assumption)];rfl)),trivial⟩ ⟨rfl,rfl,rfl,trivial⟩ (fun _ s => s) trivial
  refine .sq<|.sr<|.m Z Z<|.m Z Z<|.yv (.idxS Fx.str9 Z Z Z (b := c) (j := o) (by rw [← Nat.add_zero o];exact hget 0 (by simp))) Z<|.yv (.eql Z Z) Z<|.m Z Z<|.b2 (fun h88 => ?_) (fun h88 => ?_)
  ·try simp only [dt] at h88
   have h48 : c = 48 := UInt8.toNat_inj.1 (by show c.toNat = 48;omega)
   refine .gd Z Z<|.yv (.move Z) Z<|.gd Z Z<|.yv (.move Z) Z<|.gd Z Z<|.yv (.add Z Z (w6 (by omega))) Z<|.gd Z Z<|.yv (.gtr Z Z) Z<|.yv (.pickT Z Z) Z<|.nt<|.cd Z (fun h93 => ?_) (fun h93 => ?_)
   ·try simp only [dt] at h93
    have hor : ¬ (pre digB (c :: m) = 1 ∨ c ≠ 48) := by
     rintro (h | h)
     ·omega
     ·exact h h48
    refine .sr<|.m Z Z<|.m Z Z<|.yv (.cast (.dropS Fx.str9 Z Z Z (by omega)) (by rw [← hm])) Z<|.m Z Z<|.yv (.build Z (Fx.bld200_0_1_2 _ _ _)) Z<|.sW .head Z Z Fx.size200 (by simp [Value.oneCell',strV]) Z<|.nt<|.rt<|.tR<|.tR<|?_
    refine Sx.ret1 (.inl rfl) rfl (.cell rfl Fx.agg200 (.head _) rfl) fun W s => ⟨?_,(s.ext)⟩
    first
     | (simp only [readK,List.headD_cons,h15,hw,if_true,if_false,Bool.false_eq_true];rfl)
     | (simp only [readK,List.headD_cons,h15,hw,if_true,if_false,Bool.false_eq_true,List.take_length];rfl)
     | (simp only [readK,List.headD_cons,h15,hw,hw9,if_true,if_false,Bool.false_eq_true];rfl)
     | (simp only [readK,List.headD_cons,h15,hw,hw9,if_true,if_false,Bool.false_eq_true,List.take_length];rfl)
     | (simp only [readK,List.headD_cons,h15,h71,hor,if_true,if_false,Bool.false_eq_true];rfl)
     | (simp only [readK,List.headD_cons,h15,h71,hor,if_true,if_false,Bool.false_eq_true,List.take_length];rfl)
     | (simp only [readK,List.headD_cons,h15,h71,hfind,if_true,if_false,Bool.false_eq_true];rfl)
     | (simp only [readK,List.headD_cons,h15,h71,hfind,if_true,if_false,Bool.false_eq_true,List.take_length];rfl)
     | (simp only [readK,List.headD_cons,h15,h71,hfind,if_true,if_false,Bool.false_eq_true,sym_take hfind];rfl)
     | (simp only [readK,List.headD_cons,h15,h71,hfind,if_true,if_false,Bool.false_eq_true,List.take_length];rfl)
   try simp only [df] at h93
   have hp1 := pre_step (l := c :: m) (k := 0) (by simp) (Nat.zero_le _) h71
   have hor : (pre digB (c :: m) = 1 ∨ c ≠ 48) := .inl (by omega)
   refine .sk<|.tN<|.sr<|.m Z Z<|.m Z Z<|.m Z Z<|.yv (.cast (.midS Fx.str9 Z Z Z Z Z (by omega) (by have := pre_le digB (c :: m);omega)) (by rw [mid_take,← hm])) Z<|.m Z Z<|.yv (.build Z (Fx.bld200_0_1_2 _ _ _)) Z<|.sW .head Z Z Fx.size200 (by simp [Value.oneCell',strV]) Z<|.nt<|.rt<|.tR<|?_
   refine Sx.ret1 (.inl rfl) rfl (.cell rfl Fx.agg200 (.head _) rfl) fun W s => ⟨?_,(s.ext)⟩
   first
    | (simp only [readK,List.headD_cons,h15,hw,if_true,if_false,Bool.false_eq_true];rfl)
    | (simp only [readK,List.headD_cons,h15,hw,if_true,if_false,Bool.false_eq_true,List.take_length];rfl)
    | (simp only [readK,List.headD_cons,h15,hw,hw9,if_true,if_false,Bool.false_eq_true];rfl)
    | (simp only [readK,List.headD_cons,h15,hw,hw9,if_true,if_false,Bool.false_eq_true,List.take_length];rfl)
    | (simp only [readK,List.headD_cons,h15,h71,hor,if_true,if_false,Bool.false_eq_true];rfl)
    | (simp only [readK,List.headD_cons,h15,h71,hor,if_true,if_false,Bool.false_eq_true,List.take_length];rfl)
    | (simp only [readK,List.headD_cons,h15,h71,hfind,if_true,if_false,Bool.false_eq_true];rfl)
    | (simp only [readK,List.headD_cons,h15,h71,hfind,if_true,if_false,Bool.false_eq_true,List.take_length];rfl)
    | (simp only [readK,List.headD_cons,h15,h71,hfind,if_true,if_false,Bool.false_eq_true,sym_take hfind];rfl)
    | (simp only [readK,List.headD_cons,h15,h71,hfind,if_true,if_false,Bool.false_eq_true,List.take_length];rfl)
  try simp only [df] at h88
  have hor : (pre digB (c :: m) = 1 ∨ c ≠ 48) := .inr (fun e => h88 (by rw [e];rfl))
  refine .gF Z Z Z Z<|.gF Z Z Z Z<|.gF Z Z Z Z<|.gF Z Z Z Z<|.yv (.pickF Z Z) Z<|.nt<|.cF Z<|.sk<|.tN<|.sr<|.m Z Z<|.m Z Z<|.m Z Z<|.yv (.cast (.midS Fx.str9 Z Z Z Z Z (by omega) (by have := pre_le digB (c :: m);omega)) (by rw [mid_take,← hm])) Z<|.m Z Z<|.yv (.build Z (Fx.bld200_0_1_2 _ _ _)) Z<|.sW .head Z Z Fx.size200 (by simp [Value.oneCell',strV]) Z<|.nt<|.rt<|.tR<|?_
  refine Sx.ret1 (.inl rfl) rfl (.cell rfl Fx.agg200 (.head _) rfl) fun W s => ⟨?_,(s.ext)⟩
  first
   | (simp only [readK,List.headD_cons,h15,hw,if_true,if_false,Bool.false_eq_true];rfl)
   | (simp only [readK,List.headD_cons,h15,hw,if_true,if_false,Bool.false_eq_true,List.take_length];rfl)
   | (simp only [readK,List.headD_cons,h15,hw,hw9,if_true,if_false,Bool.false_eq_true];rfl)
   | (simp only [readK,List.headD_cons,h15,hw,hw9,if_true,if_false,Bool.false_eq_true,List.take_length];rfl)
   | (simp only [readK,List.headD_cons,h15,h71,hor,if_true,if_false,Bool.false_eq_true];rfl)
   | (simp only [readK,List.headD_cons,h15,h71,hor,if_true,if_false,Bool.false_eq_true,List.take_length];rfl)
   | (simp only [readK,List.headD_cons,h15,h71,hfind,if_true,if_false,Bool.false_eq_true];rfl)
   | (simp only [readK,List.headD_cons,h15,h71,hfind,if_true,if_false,Bool.false_eq_true,List.take_length];rfl)
   | (simp only [readK,List.headD_cons,h15,h71,hfind,if_true,if_false,Bool.false_eq_true,sym_take hfind];rfl)
   | (simp only [readK,List.headD_cons,h15,h71,hfind,if_true,if_false,Bool.false_eq_true,List.take_length];rfl)
 skip
 refine .sk<|.tN<|.sq<|.sr<|.ct (X := Nat) Fx.call142 Z (fun W s => symbolsR_any H W s.agr) Z fun b105 H1 m1 u1 => .yv (.lenSl Fx.sl66 Z) Z<|.m Z Z<|.nt<|.bk<|.lp (X := Nat) [(0,_),(1,_),(4,_),(105,_),(106,_)] ⟨rfl,rfl,rfl,rfl,rfl,trivial⟩ [_] (fun k => [(107,.int .i64 (k : Nat))]) (fun k => H1) (fun k => []) (fun k => k ≤ 25 ∧ ∀ j,j < k → hasP (c :: m) (symbols.getD j []) = false) (fun k => 25 - k) 0 (fun _ s => s) ⟨rfl,trivial⟩ ⟨by omega,fun j hj => by omega⟩ fun k hC => ?_
 obtain ⟨hk0,hne⟩ := hC
 refine .sr<|.yv (.lss Z Z) Z<|.nt<|.sq<|.cd Z (fun h108 => ?_) (fun h108 => ?_)
 ·try simp only [dt] at h108
  refine .sk<|.tN<|.sq<|.bk<|.sr<|.yv (.indexSl Fx.sl66 Z Z Z (by omega) (q := k) (by omega)) Z<|.yv (.loadM Z Fx.agg9 m1 (k := k) (by omega) (list_at (by show k < 25;omega) [])) Z<|.a Z Z<|.ns<|.m Z Z<|.yv (.lenS Fx.str9 Z) Z<|.m Z Z<|.yv (.sub Z Z (w6 (by omega))) Z<|.m Z Z<|.yv (.lenS Fx.str9 Z) Z<|.yv (.geq Z Z) Z<|.m Z Z<|.b2 (fun h118 => ?_) (fun h118 => ?_)
  ·try simp only [dt] at h118
   refine .gd Z Z<|.yv (.move Z) Z<|.gd Z Z<|.yv (.move Z) Z<|.gd Z Z<|.yv (.move Z) Z<|.gd Z Z<|.yv (.move Z) Z<|.gd Z Z<|.yv (.lenS Fx.str9 Z) Z<|.gd Z Z<|.yv (.add Z Z (w6 (by omega))) Z<|.gd Z Z<|.yv (.cast (.midS Fx.str9 Z Z Z Z (hi := o + (symbols.getD k []).length) (by omega) (by omega) (by omega)) (by rw [mid_take,← hm])) Z<|.gd Z Z<|.yv (.move Z) Z<|.gd Z Z<|.yv (.eqS Z Z) Z<|.yv (.pickT Z Z) Z<|.nt<|.cd Z (fun h128 => ?_) (fun h128 => ?_)
   ·try simp only [dt] at h128
    have hfind := sym_find (l := c :: m) (by omega) hne (by simp only [hasP,Bool.and_eq_true,decide_eq_true_eq] at *;exact ⟨by omega,by assumption⟩)
    refine .sr<|.m Z Z<|.m Z Z<|.yv (.build Z (Fx.bld200_0_1_2 _ _ _)) Z<|.sW .head Z Z Fx.size200 (by simp [Value.oneCell',strV]) Z<|.nt<|.rt<|.bR<|.tR<|.tR<|.bR<|.tR<|?_
    refine Sx.ret1 (.inl rfl) rfl (.cell rfl Fx.agg200 (.head _) rfl) fun W s => ⟨?_,(u1.grow s).ext⟩
    first
     | (simp only [readK,List.headD_cons,h15,hw,if_true,if_false,Bool.false_eq_true];rfl)
     | (simp only [readK,List.headD_cons,h15,hw,if_true,if_false,Bool.false_eq_true,List.take_length];rfl)
     | (simp only [readK,List.headD_cons,h15,hw,hw9,if_true,if_false,Bool.false_eq_true];rfl)
     | (simp only [readK,List.headD_cons,h15,hw,hw9,if_true,if_false,Bool.false_eq_true,List.take_length];rfl)
     | (simp only [readK,List.headD_cons,h15,h71,hor,if_true,if_false,Bool.false_eq_true];rfl)
     | (simp only [readK,List.headD_cons,h15,h71,hor,if_true,if_false,Bool.false_eq_true,List.take_length];rfl)
     | (simp only [readK,List.headD_cons,h15,h71,hfind,if_true,if_false,Bool.false_eq_true];rfl)
     | (simp only [readK,List.headD_cons,h15,h71,hfind,if_true,if_false,Bool.false_eq_true,List.take_length];rfl)
     | (simp only [readK,List.headD_cons,h15,h71,hfind,if_true,if_false,Bool.false_eq_true,sym_take hfind];rfl)
     | (simp only [readK,List.headD_cons,h15,h71,hfind,if_true,if_false,Bool.false_eq_true,List.take_length];rfl)
   try simp only [df] at h128
   exact .sk<|.bN<|.tN<|.rg<|.yv (.add Z Z (w6 (by omega))) Z<|.m Z Z<|.nt<|.ag (k + 1) ⟨rfl,trivial⟩ ⟨rfl,rfl,rfl,rfl,rfl,trivial⟩ (fun _ s => s) ⟨by omega,fun j hj => by
   by_cases e : j = k
   ·subst e;simp only [hasP,Bool.and_eq_false_iff,decide_eq_false_iff_not] at *;first | exact .inl (by omega) | exact .inr (by assumption)
   ·exact hne j (by omega)⟩ (by omega)
  try simp only [df] at h118
  exact .gF Z Z Z Z<|.gF Z Z Z Z<|.gF Z Z Z Z<|.gF Z Z Z Z<|.gF Z Z Z Z<|.gF Z Z Z Z<|.gF Z Z Z Z<|.gF Z Z Z Z<|.gF Z Z Z Z<|.yv (.pickF Z Z) Z<|.nt<|.cF Z<|.sk<|.bN<|.tN<|.rg<|.yv (.add Z Z (w6 (by omega))) Z<|.m Z Z<|.nt<|.ag (k + 1) ⟨rfl,trivial⟩ ⟨rfl,rfl,rfl,rfl,rfl,trivial⟩ (fun _ s => s) ⟨by omega,fun j hj => by
   by_cases e : j = k
   ·subst e;simp only [hasP,Bool.and_eq_false_iff,decide_eq_false_iff_not] at *;first | exact .inl (by omega) | exact .inr (by assumption)
   ·exact hne j (by omega)⟩ (by omega)
 try simp only [df] at h108
 have hfind := sym_none (l := c :: m) (fun j hj => hne j (by omega))
 refine .ex<|.tE<|.tE<|.bE<|.tN<|.sr<|.m Z Z<|.m Z Z<|.yv (.cast (.dropS Fx.str9 Z Z Z (by omega)) (by rw [← hm])) Z<|.m Z Z<|.yv (.build Z (Fx.bld200_0_1_2 _ _ _)) Z<|.sW .head Z Z Fx.size200 (by simp [Value.oneCell',strV]) Z<|.nt<|.rt<|?_
 refine Sx.ret1 (.inl rfl) rfl (.cell rfl Fx.agg200 (.head _) rfl) fun W s => ⟨?_,(u1.grow s).ext⟩
 first
  | (simp only [readK,List.headD_cons,h15,hw,if_true,if_false,Bool.false_eq_true];rfl)
  | (simp only [readK,List.headD_cons,h15,hw,if_true,if_false,Bool.false_eq_true,List.take_length];rfl)
  | (simp only [readK,List.headD_cons,h15,hw,hw9,if_true,if_false,Bool.false_eq_true];rfl)
  | (simp only [readK,List.headD_cons,h15,hw,hw9,if_true,if_false,Bool.false_eq_true,List.take_length];rfl)
  | (simp only [readK,List.headD_cons,h15,h71,hor,if_true,if_false,Bool.false_eq_true];rfl)
  | (simp only [readK,List.headD_cons,h15,h71,hor,if_true,if_false,Bool.false_eq_true,List.take_length];rfl)
  | (simp only [readK,List.headD_cons,h15,h71,hfind,if_true,if_false,Bool.false_eq_true];rfl)
  | (simp only [readK,List.headD_cons,h15,h71,hfind,if_true,if_false,Bool.false_eq_true,List.take_length];rfl)
  | (simp only [readK,List.headD_cons,h15,h71,hfind,if_true,if_false,Bool.false_eq_true,sym_take hfind];rfl)
  | (simp only [readK,List.headD_cons,h15,h71,hfind,if_true,if_false,Bool.false_eq_true,List.take_length];rfl)
theorem lex_next {s m : Str} {o : Nat} (hm : m = s.drop o) (h : o < s.length) (hsl : (skipS false (m.drop (readK m).2)).length ≤ m.length - (readK m).2) :
 skipS false (m.drop (readK m).2) = s.drop (o + (m.length - (skipS false (m.drop (readK m).2)).length)) := by
 have h1 := skipS_drop false (m.drop (readK m).2)
 rw [List.length_drop,List.drop_drop] at h1
 by_cases h0 : (readK m).2 ≤ m.length
 ·rw [show (readK m).2 + (m.length - (readK m).2 - (skipS false (m.drop (readK m).2)).length) = m.length - (skipS false (m.drop (readK m).2)).length by omega] at h1
  rw [← List.drop_drop,← hm]
  exact h1.symm
 ·have e : m.drop (readK m).2 = [] := List.drop_of_length_le (by omega)
  rw [e,skipS_nil,← List.drop_drop,← hm]
  simp
theorem next_m (H : Hp) (s : Str) (hl : s.length ≤ 1000000) (o : Nat) (ho : o < s.length) (m : Str) (hm : m = s.drop o) (w : World) (hA : Agr H w) :
 Calls Tryz.prog 125 #[strV s,.int .i64 (o : Nat)] w fun r w' => r = .returned (.agg (cTk .i64 ⟨(readK m).1,m.take (readK m).2,o⟩).toArray) ∧ Ext w w' := by
 subst hm
 exact next_any H s hl o ho w hA
set_option maxRecDepth 100000 in
theorem lexR_any (H : Hp) (s : Str) (hl : s.length ≤ 1000000) (w : World) (hA : Agr H w) :
 Calls Tryz.prog 102 #[strV s] w fun r w' => ∃ (v : Value) (H' : Hp),Rep H' (.seq 3 ((lexR s).map (dTk .i64))) [v] ∧ r = .returned v ∧ Grow H w H' w' := by
 refine Sx.enter (H := H) Tryz.func102 rfl Tryz.ntmps102 rfl hA ?_
 refine .sr<|.a Z Z<|.ns<|.a Z Z<|?_
 refine Sx.row0 200 3 ?_
 refine .ns<|.m Z Z<|.yv (.call Fx.call124 Z (fun W _ => skip_any s hl 0 (by omega) W)) Z<|.a Z Z<|.nt<|.sq<|.bk<|.lp (X := Nat × Nat × Value × List Value) [(0,_)] ⟨rfl,trivial⟩ [] (fun z => [(3,z.2.2.1),(4,.int .i64 (z.1 : Nat))]) (fun z => H) (fun z => [.row 200 3 z.2.2.1 z.2.1 z.2.2.2]) (fun z => z.1 ≤ s.length ∧ z.2.1 ≤ z.1 ∧ ∃ tk : List Tk,tk.length = z.2.1 ∧ RepZ H 3 (tk.map (dTk .i64)) z.2.2.2 ∧ tk ++ tokF (s.length + 1) z.1 (s.drop z.1) = lexR s) (fun z => s.length - z.1) (s.length - (skipS false s).length,0,.slice none 0 0,[]) (fun _ s => s) ⟨rfl,rfl,trivial⟩ ⟨by dsimp only;omega,by dsimp only;omega,[],rfl,RepZ.nil,by rw [skipS_drop];rfl⟩ fun z hC => ?_
 obtain ⟨o,n,r,xs⟩ := z
 dsimp only at hC ⊢
 obtain ⟨ho,hn,tk,hk,hz,htk⟩ := hC
 refine .sq<|.sr<|.m Z Z<|.m Z Z<|.yv (.lenS Fx.str9 Z) Z<|.yv (.lss Z Z) Z<|.nt<|.cd Z (fun h11 => ?_) (fun h11 => ?_)
 ·try simp only [dt] at h11
  have hlt : o < s.length := by omega
  obtain ⟨m,hm⟩ : ∃ m,m = s.drop o := ⟨_,rfl⟩
  have hml : m.length = s.length - o := by rw [hm,List.length_drop]
  have hm0 : m ≠ [] := by intro e;rw [e] at hml;simp at hml;omega
  have hrk := readK_bnd hm0
  have htl : (m.take (readK m).2).length = (readK m).2 := by rw [List.length_take];omega
  rw [← hm] at htk
  have hsl := skipS_len false (m.drop (readK m).2)
  rw [List.length_drop] at hsl
  exact .sk<|.tN<|.bk<|.sr<|.m Z Z<|.m Z Z<|.yv (.call Fx.call125 Z (fun W t => next_m H s hl o hlt m hm W t.agr)) Z<|.al Fx.zero200 Z fun b5 => .sW .head Z Z Fx.size200 (by simp [cTk,Value.oneCell',strV]) Z<|.ns<|.m Z Z<|.yv (.loadW Z Fx.agg200 (.head _) Z) Z<|.bl Z (Fx.bsl197_1 _ _ _) Z fun b17 => .ap (news := cTk .i64 ⟨(readK m).1,m.take (readK m).2,o⟩) Fx.row197 Z (fun _ => (.tail<|.tail<|.head)) Z (.box (.head _) z0) Z (by simp [cTk,Value.oneCell',strV]) (by simp [maxLen];omega) (by omega) Z fun r18 _ => .a Z Z<|.nt<|.rg<|.m Z Z<|.m Z Z<|.yv (.fieldAddr Z Fx.field200_1) Z<|.yv (.load Z Fx.agg9 (.tail _<|.head _) Z) Z<|.yv (.lenS Fx.str9 Z) Z<|.yv (.add Z Z (c := ((o + (readK m).2 : Nat) : Int)) (by rw [htl];exact (w6 (by omega)).trans (by omega))) Z<|.yv (.cast (.call Fx.call124 Z (fun W _ => skip_any s hl (o + (readK m).2) (by omega) W)) (by rw [← List.drop_drop,← hm,show s.length - (skipS false (m.drop (readK m).2)).length = o + (m.length - (skipS false (m.drop (readK m).2)).length) by omega])) Z<|.a Z Z<|.nl<|.bN<|.tN<|.ag (x := (o,n,r,xs)) (o + (m.length - (skipS false (m.drop (readK m).2)).length),n + 1,r18,xs ++ cTk .i64 ⟨(readK m).1,m.take (readK m).2,o⟩) ⟨rfl,rfl,trivial⟩ ⟨rfl,trivial⟩ (fun _ s => (s.pick [2] _ Z Z)) ⟨by dsimp only;omega,by dsimp only;omega,tk ++ [⟨(readK m).1,m.take (readK m).2,o⟩],by simp;omega,by dsimp only;rw [List.map_append];exact hz.snoc (tk_shut (by rw [htl];omega)) Z,by dsimp only;rw [← htk,List.append_assoc,← lex_next hm hlt hsl,tokF_step hm0,List.cons_append,List.nil_append,tokF_more (s.length + 1) s.length _ _ (by omega) (by omega)]⟩ (by dsimp only;omega)
 try simp only [df] at h11
 obtain rfl : o = s.length := by omega
 rw [List.drop_length,tokF_nil,List.append_nil] at htk
 refine .ex<|.tE<|.tE<|.bE<|.tN<|.sr<|.m Z Z<|.a Z Z<|.nt<|.rt<|?_
 refine At.pm [0] [_] rfl rfl ?_
 refine Sx.freezeSeq (ds := (lexR s).map (dTk .i64)) (by rw [← htk];simp;omega) (by rw [← htk];exact hz) fun H3 p3 c3 u3 hr3 hs3 => ?_
 exact Sx.ret1 (.inl rfl) rfl (.tmp rfl) fun W t => ⟨r,H3,hs3,rfl,u3.grow t⟩
theorem one_of {s : Str} {x : Tk} (h : (lexR s).length = 1) (hx : (lexR s)[0] = x) : lexR s = [x] := by
 match e : lexR s,h with
 | [y],_ => simp only [e,List.getElem_cons_zero] at hx;rw [hx]
theorem name_no1 {s : Str} (h : ¬ (lexR s).length = 1) : nameB s = false := by
 rw [Bool.eq_false_iff,Ne,lex_name]
 rintro ⟨o,e⟩
 rw [e] at h;exact h rfl
theorem name_no2 {s : Str} {x : Tk} (h : (lexR s).length = 1) (hx : (lexR s)[0] = x) (hk : ¬ x.k = 1) : nameB s = false := by
 rw [Bool.eq_false_iff,Ne,lex_name]
 rintro ⟨o,e⟩
 rw [one_of h hx] at e
 injection e with e _
 exact hk (by rw [e])
theorem name_is {s : Str} {x : Tk} (h : (lexR s).length = 1) (hx : (lexR s)[0] = x) (hk : x.k = 1) : nameB s = decide (x.t = s) := by
 rw [Bool.eq_iff_iff,lex_name,decide_eq_true_eq,one_of h hx]
 obtain ⟨k,t,o⟩ := x
 constructor
 ·rintro ⟨o,e⟩
  injection e with e _
  injection e
 ·intro e
  dsimp only at hk e
  exact ⟨o,by rw [hk,e]⟩
set_option maxRecDepth 100000 in
theorem isNameR_any (H : Hp) (s : Str) (hl : s.length ≤ 1000000) (w : World) (hA : Agr H w) :
 Calls Tryz.prog 68 #[strV s] w fun r w' => r = .returned (.bool (nameB s)) ∧ Ext w w' := by
 refine Sx.enter (H := H) Tryz.func68 rfl Tryz.ntmps68 rfl hA ?_
 refine .sr<|.a Z Z<|.ns<|.m Z Z<|.ct (X := Value) Fx.call102 Z (fun W t => lexR_any H s hl W t.agr) Z fun v H1 hsq u1 => ?_
 obtain ⟨p,c,e,_⟩ := hsq.sl
 simp only [List.cons.injEq,and_true] at e
 subst e
 refine .a Z Z<|.ns<|.m Z Z<|.yv (.lenSl Fx.sl197 Z) Z<|.yv (.eql Z Z) Z<|.m Z Z<|.b2 (fun h9 => ?_) (fun h9 => ?_)
 ·try simp only [dt] at h9
  have hl1 : (lexR s).length = 1 := by simp only [List.length_map] at *;omega
  obtain ⟨bE,oE,cE,hpE,rE,lE,mE⟩ := hsq.elem (map_at (f := dTk .i64) (show 0 < (lexR s).length by omega))
  subst hpE
  generalize hx : (lexR s)[0] = x at rE
  obtain ⟨rfl,hxt⟩ := tk_open rE
  refine .gd Z Z<|.yv (.move Z) Z<|.gd Z Z<|.yv (.indexSl Fx.sl197 Z Z (i := 0) Z (by omega) (q := oE + 0 * 3) (by omega)) Z<|.gd Z Z<|.yv (.fieldAddr Z Fx.field200_0) Z<|.gd Z Z<|.yv (.loadM Z Fx.agg3 mE (k := 0) Z Z) Z<|.gd Z Z<|.yv (.eql Z Z) Z<|.yv (.pickT Z Z) Z<|.m Z Z<|.b2 (fun h16 => ?_) (fun h16 => ?_)
  ·try simp only [dt] at h16
   have hk1 : x.k = 1 := UInt8.toNat_inj.1 (by show x.k.toNat = 1;omega)
   refine .gd Z Z<|.yv (.move Z) Z<|.gd Z Z<|.yv (.indexSl Fx.sl197 Z Z (i := 0) Z (by omega) (q := oE + 0 * 3) (by omega)) Z<|.gd Z Z<|.yv (.fieldAddr Z Fx.field200_1) Z<|.gd Z Z<|.yv (.loadM Z Fx.agg9 mE (k := 1) Z Z) Z<|.gd Z Z<|.yv (.move Z) Z<|.gd Z Z<|.yv (.eqS Z Z) Z<|.yv (.pickT Z Z) Z<|.a Z Z<|.nt<|.rt<|?_
   refine Sx.ret1 (.inl rfl) rfl (.tmp rfl) fun W t => ⟨?_,(u1.grow t).ext⟩
   first
    | (rw [hno])
    | (rw [name_is hl1 hx hk1])
  try simp only [df] at h16
  have hno : nameB s = false := name_no2 hl1 hx (fun e => h16 (by rw [e];rfl))
  refine .gF Z Z Z Z<|.gF Z Z Z Z<|.gF Z Z Z Z<|.gF Z Z Z Z<|.gF Z Z Z Z<|.gF Z Z Z Z<|.yv (.pickF Z Z) Z<|.a Z Z<|.nt<|.rt<|?_
  refine Sx.ret1 (.inl rfl) rfl (.tmp rfl) fun W t => ⟨?_,(u1.grow t).ext⟩
  first
   | (rw [hno])
   | (rw [name_is hl1 hx hk1])
 try simp only [df] at h9
 have hno : nameB s = false := name_no1 (by simp only [List.length_map] at *;omega)
 refine .gF Z Z Z Z<|.gF Z Z Z Z<|.gF Z Z Z Z<|.gF Z Z Z Z<|.gF Z Z Z Z<|.yv (.pickF Z Z) Z<|.m Z Z<|.gF Z Z Z Z<|.gF Z Z Z Z<|.gF Z Z Z Z<|.gF Z Z Z Z<|.gF Z Z Z Z<|.gF Z Z Z Z<|.yv (.pickF Z Z) Z<|.a Z Z<|.nt<|.rt<|?_
 refine Sx.ret1 (.inl rfl) rfl (.tmp rfl) fun W t => ⟨?_,(u1.grow t).ext⟩
 first
  | (rw [hno])
  | (rw [name_is hl1 hx hk1])
end Go.Proofs.YtmbiojpcidccjaaGreatDoor
