/- Walk of the law Causes. -/
import Derived.Test.YtnmickfdflinpaaDoorFJ
namespace Go.Proofs.YtnmickfdflinpaaDoor
open Go.RowKit Go.Par Go.Sx
theorem updN_self {α : Type} (f : Nat → α) (k : Nat) : updN f k (f k) = f := by
  funext j
  unfold updN
  split
  · rename_i h; rw [h]
  · rfl
theorem updN_upd {α : Type} (f : Nat → α) (k : Nat) (a b : α) : updN (updN f k a) k b = updN f k b := by
  funext j
  unfold updN
  split <;> simp_all
theorem aggC5 : aggN Tryd.prog 5 = some none := by kernel_rfl
theorem intC5 : intN Tryd.prog 5 = some .u8 := by kernel_rfl
def pOf (st : Nat → Nat → UInt8) (N : Nat) : Nat := (st N 0).toNat % 4
def qOf (st : Nat → Nat → UInt8) (N : Nat) : Nat := (st N 1).toNat % 3
def kOf (st : Nat → Nat → UInt8) (N : Nat) : Nat := (st N 2).toNat % N
theorem pOf_lt (st : Nat → Nat → UInt8) (N : Nat) : pOf st N < 4 := Nat.mod_lt _ (by decide)
theorem kOf_lt (st : Nat → Nat → UInt8) {N : Nat} (h : 0 < N) : kOf st N < N := Nat.mod_lt _ h
theorem rowAny {n : Nat} {L : Sl} {H : Hp} {w0 : World} {bs : List Res} {e : TypeId} {size k : Nat} {r : Value} {xs : List Value} {G : Act → World → Prop} (hm : Res.row e size r k xs ∈ bs) (h : ∀ p c, r = .slice p k c → At n L H w0 bs G) : At n L H w0 bs G := fun a W f s => by
  have ho : W.ownsRow w0.heap.size e size r k xs := (s.own _ hm).1
  rcases ho.2 with ⟨hr, h0⟩ | ⟨g, cap, cur, hr, _⟩
  · exact h none 0 (by rw [hr, h0]) a W f s
  · exact h _ cap hr a W f s
theorem pow_cast (N : Nat) : (2 : Int) ^ N = ((2 ^ N : Nat) : Int) := by
  induction N with
  | zero => rfl
  | succ n ih => rw [Int.pow_succ, Nat.pow_succ, ih]; simp
theorem shl_nat {N : Nat} (h : N < 64) : IntKind.u64.wrap (1 * 2 ^ N) = ((2 ^ N : Nat) : Int) := by
  have h2 : 2 ^ N < 2 ^ 64 := Nat.pow_lt_pow_right (by decide) h
  rw [Int.one_mul, pow_cast]
  generalize 2 ^ N = q at h2
  exact wu64 (by omega) (by omega)
theorem shr_nat (a i : Nat) : ((a : Int)).fdiv (2 ^ i) = ((a / 2 ^ i : Nat) : Int) := by
  rw [pow_cast, Int.fdiv_eq_ediv_of_nonneg _ (Int.natCast_nonneg _)]
  rfl
theorem Yl.castC {P : Program} {L : Sl} {H : Hp} {w0 : World} {bs : List Res} {o : Oper} {v v' : Value} (h : Yl P L H w0 bs o v) (e : v = v') : Yl P L H w0 bs o v' := e ▸ h
theorem conv8 {n : Nat} (h : n < 256) : IntKind.i64.wrap (n : Int) = (n : Int) := w64 (by omega) (by omega)
theorem inv_bit {pr : Nat → Nat} {now : Nat → Nat → Int} {past : Nat → Nat} {N : Nat} {C : Nat → Nat → Int} {P : Nat → Nat} (h : InvP pr now past N C P) {i j : Nat} (hi : i < N) (hj : j < N) (hne : i ≠ j) :
    (decide (((P j / 2 ^ i % 2 : Nat) : Int) = 1) = decide (cmpF (C i) (C j) = 2)) ∧ (((P j / 2 ^ i % 2 : Nat) : Int) = 1 → cmpF (C j) (C i) = 3) := by
  obtain ⟨h1, h2⟩ := causes_iff h hi hj
  have hb := bit_div (P j) i
  constructor
  · rw [decide_eq_decide, ← h1]
    constructor
    · intro e; exact ⟨hne, hb.1 (by omega)⟩
    · intro e; have := hb.2 e.2; omega
  · intro e; exact h2 hne (hb.1 (by omega))
theorem inv_same {pr : Nat → Nat} {now : Nat → Nat → Int} {past : Nat → Nat} {N : Nat} {C : Nat → Nat → Int} {P : Nat → Nat} (h : InvP pr now past N C P) {i : Nat} (hi : i < N) : decide (cmpF (C i) (C i) = 2) = false := by
  have h1 := (causes_iff h hi hi).1
  rw [decide_eq_false_iff_not, ← h1]
  exact fun e => e.1 rfl
set_option maxHeartbeats 4000000 in
set_option maxRecDepth 100000 in
theorem causes_any (H : Hp) (p : Option Addr) (n c : Nat) (st : Nat → Nat → UInt8) (hc : n ≤ c) (hcm : c ≤ maxLen) (hs : n = 0 ∨ ∃ b off arr t m, p = some (⟨b, off, none⟩ : Addr) ∧ H b = some (.cells arr t m) ∧ ∀ (i k : Nat), i < n → k < 3 → arr[off + i * 3 + k]? = some (byteV (st i k))) (w : World) (hA : Agr H w) (G : Globs w) :
    Calls Tryd.prog 7 #[.slice p n c] w fun e w' => e = .returned (.bool true) ∧ Ext w w' := by
  refine Sx.enter (H := H) Tryd.func7 rfl Tryd.ntmps7 rfl hA ?_
  refine Sx.seq ?_
  refine Sx.region ?_
  refine Sx.cons ?_
  refine Sx.yl (.assign rfl) rfl ?_
  refine Sx.nil ?_
  refine Sx.thenN ?_
  refine Sx.seq ?_
  refine Sx.seq ?_
  refine Sx.region ?_
  refine Sx.cons ?_
  refine Sx.yl (.call Fx.call15 rfl (fun W s => awake_any W (G.ext s.ext))) rfl ?_
  refine Sx.cons ?_
  refine Sx.yl (.not rfl) rfl ?_
  refine Sx.nil ?_
  refine Sx.thenN ?_
  refine Sx.condF rfl ?_
  refine Sx.skip ?_
  refine Sx.thenN ?_
  refine Sx.seq ?_
  refine Sx.region ?_
  refine Sx.cons ?_
  refine Sx.alloc Fx.zero46 rfl (fun b3 => ?_)
  refine Sx.nil ?_
  refine Sx.thenN ?_
  refine Sx.seq ?_
  refine Sx.region ?_
  refine Sx.cons ?_
  refine Sx.alloc Fx.zero47 rfl (fun b4 => ?_)
  refine Sx.nil ?_
  refine Sx.thenN ?_
  refine Sx.seq ?_
  refine Sx.region ?_
  refine Sx.cons ?_
  refine Sx.yl (.assign rfl) rfl ?_
  refine Sx.nil ?_
  refine Sx.thenN ?_
  refine Sx.seq ?_
  refine Sx.region ?_
  refine Sx.cons ?_
  refine Sx.yl (.assign rfl) rfl ?_
  refine Sx.nil ?_
  refine Sx.thenN ?_
  refine Sx.row0 23 1 ?_
  refine Sx.row0 26 16 ?_
  refine Sx.cutS (X := Sd) (fun z => [(2, .bool false), (5, z.r5), (6, z.r6)]) (fun z => H) (fun z => [.row 26 16 z.r5 z.N (clL z.N z.C), .row 23 1 z.r6 z.N (psL z.N z.P)]) (fun z => (∃ pr, InvP pr z.now z.past z.N z.C z.P) ∧ z.N ≤ 30) ?_ ?_
  ·
    refine Sx.seq ?_
    refine Sx.region ?_
    refine Sx.cons ?_
    refine Sx.yl (.assign rfl) rfl ?_
    refine Sx.nil ?_
    refine Sx.thenN ?_
    refine Sx.blk ?_
    -- live at the head, not kept: [20, 21, 40, 41]
    refine Sx.loop (X := Sd) (fun z => [(0, .slice p n c), (2, .bool false), (3, .pointer (some ⟨b3, 0, none⟩)), (4, .pointer (some ⟨b4, 0, none⟩)), (5, z.r5), (6, z.r6), (7, .int .i64 (z.N : Nat))]) (fun z => H) (fun z => [.row 26 16 z.r5 z.N (clL z.N z.C), .row 23 1 z.r6 z.N (psL z.N z.P), .box b4 (pastL z.past) 47, .box b3 (nowL z.now) 46]) (fun z => (∃ pr, InvP pr z.now z.past z.N z.C z.P) ∧ z.N ≤ n ∧ z.N ≤ 30) (fun z => 30 - z.N) ⟨0, fun _ _ => 0, fun _ => 0, fun _ _ => 0, fun _ => 0, .slice none 0 0, .slice none 0 0⟩ ⟨⟨_, inv_zero⟩, by dsimp only; omega, by dsimp only; omega⟩ ⟨rfl, rfl, rfl, rfl, rfl, rfl, rfl, trivial⟩ (fun W s => s) ?_
    intro z hC
    obtain ⟨N, now, past, C, P, r5, r6⟩ := z
    dsimp only at hC ⊢
    obtain ⟨⟨pr, hI⟩, hn1, hn2⟩ := hC
    refine Sx.seq ?_
    refine Sx.seq ?_
    refine Sx.region ?_
    refine Sx.cons ?_
    refine Sx.yl (.move rfl) rfl ?_
    refine Sx.cons ?_
    refine Sx.yl (.move rfl) rfl ?_
    refine Sx.cons ?_
    refine Sx.yl (.lenSl Fx.sl45 rfl) rfl ?_
    refine Sx.cons ?_
    refine Sx.yl (.lss rfl rfl) rfl ?_
    refine Sx.cons ?_
    refine Sx.yl (.move rfl) rfl ?_
    refine Sx.bool (fun h19 => ?_) (fun h19 => ?_)
    · try simp only [decide_eq_true_eq] at h19
      refine Sx.cons ?_
      refine Sx.guardT rfl rfl ?_
      refine Sx.yl (.move rfl) rfl ?_
      refine Sx.cons ?_
      refine Sx.guardT rfl rfl ?_
      refine Sx.yl (.lss rfl rfl) rfl ?_
      refine Sx.cons ?_
      refine Sx.yl (.pickT rfl rfl) rfl ?_
      refine Sx.nil ?_
      refine Sx.thenN ?_
      refine Sx.cond rfl (fun h22 => ?_) (fun h22 => ?_)
      · try simp only [decide_eq_true_eq] at h22
        obtain ⟨b0, off, arr, t0, m0, rfl, hb0, ha0⟩ := hs.resolve_left (by omega)
        obtain ⟨p0, hp0⟩ : ∃ p0, pOf st N = p0 := ⟨_, rfl⟩
        have hp4 : p0 < 4 := hp0 ▸ pOf_lt st N
        refine Sx.skip ?_
        refine Sx.thenN ?_
        refine Sx.seq ?_
        refine Sx.blk ?_
        refine Sx.seq ?_
        refine Sx.region ?_
        refine Sx.cons ?_
        refine Sx.yl (.move rfl) rfl ?_
        refine Sx.cons ?_
        refine Sx.yl (.move rfl) rfl ?_
        refine Sx.cons ?_
        refine Sx.yl (.indexSl Fx.sl45 rfl rfl rfl (by omega) (q := off + N * 3) rfl) rfl ?_
        refine Sx.cons ?_
        refine Sx.yl (.fieldAddr rfl Fx.field50_0) rfl ?_
        refine Sx.cons ?_
        refine Sx.yl (.loadH rfl aggC5 hb0 (ha0 N 0 (by omega) (by omega))) rfl ?_
        refine Sx.cons ?_
        refine Sx.yl (.rem rfl rfl (by decide) (c := (p0 : Int)) (by rw [← hp0]; rfl)) rfl ?_
        refine Sx.cons ?_
        refine Sx.yl (.conv rfl intC5 Fx.int3 (c := (p0 : Int)) (conv8 (by omega))) rfl ?_
        refine Sx.cons ?_
        refine Sx.yl (.assign rfl) rfl ?_
        refine Sx.nil ?_
        refine Sx.thenN ?_
        refine Sx.cutS (X := (Nat → Int) × Nat) (fun z => [(0, .slice (some ⟨b0, off, none⟩) n c), (2, .bool false), (3, .pointer (some ⟨b3, 0, none⟩)), (4, .pointer (some ⟨b4, 0, none⟩)), (5, r5), (6, r6), (7, .int .i64 (N : Nat)), (8, .int .i64 (p0 : Nat))]) (fun z => H) (fun z => [.row 26 16 r5 N (clL N C), .row 23 1 r6 N (psL N P), .box b4 (pastL (updN past p0 z.2)) 47, .box b3 (nowL (updN now p0 z.1)) 46]) (fun z => Mid pr now N C p0 z.1 z.2) ?_ ?_
        ·
          refine Sx.seq ?_
          refine Sx.region ?_
          refine Sx.cons ?_
          refine Sx.yl (.move rfl) rfl ?_
          refine Sx.cons ?_
          refine Sx.yl (.move rfl) rfl ?_
          refine Sx.cons ?_
          refine Sx.yl (.indexSl Fx.sl45 rfl rfl rfl (by omega) (q := off + N * 3) rfl) rfl ?_
          refine Sx.cons ?_
          refine Sx.yl (.fieldAddr rfl Fx.field50_1) rfl ?_
          refine Sx.cons ?_
          refine Sx.yl (.loadH rfl aggC5 hb0 (ha0 N 1 (by omega) (by omega))) rfl ?_
          refine Sx.cons ?_
          refine Sx.yl (.rem rfl rfl (by decide) (c := (qOf st N : Int)) rfl) rfl ?_
          refine Sx.cons ?_
          refine Sx.yl (.eql rfl rfl) rfl ?_
          refine Sx.cons ?_
          refine Sx.yl (.move rfl) rfl ?_
          refine Sx.bool (fun h39 => ?_) (fun h39 => ?_)
          · try simp only [decide_eq_true_eq] at h39
            refine Sx.cons ?_
            refine Sx.guardT rfl rfl ?_
            refine Sx.yl (.move rfl) rfl ?_
            refine Sx.cons ?_
            refine Sx.guardT rfl rfl ?_
            refine Sx.yl (.gtr rfl rfl) rfl ?_
            refine Sx.cons ?_
            refine Sx.yl (.pickT rfl rfl) rfl ?_
            refine Sx.nil ?_
            refine Sx.thenN ?_
            refine Sx.cond rfl (fun h42 => ?_) (fun h42 => ?_)
            · try simp only [decide_eq_true_eq] at h42
              obtain ⟨k0, hk0e⟩ : ∃ k0, kOf st N = k0 := ⟨_, rfl⟩
              have hk0 : k0 < N := hk0e ▸ kOf_lt st (by omega)
              refine Sx.rowCase (.head _) (by omega) (fun b5 c5 hr5 hc5 => ?_)
              subst hr5
              refine Sx.rowCase (.tail _ (.head _)) (by omega) (fun b6 c6 hr6 hc6 => ?_)
              subst hr6
              refine Sx.seq ?_
              refine Sx.region ?_
              refine Sx.cons ?_
              refine Sx.yl (.move rfl) rfl ?_
              refine Sx.cons ?_
              refine Sx.yl (.move rfl) rfl ?_
              refine Sx.cons ?_
              refine Sx.yl (.indexSl Fx.sl45 rfl rfl rfl (by omega) (q := off + N * 3) rfl) rfl ?_
              refine Sx.cons ?_
              refine Sx.yl (.fieldAddr rfl Fx.field50_2) rfl ?_
              refine Sx.cons ?_
              refine Sx.yl (.loadH rfl aggC5 hb0 (ha0 N 2 (by omega) (by omega))) rfl ?_
              refine Sx.cons ?_
              refine Sx.yl (.conv rfl intC5 Fx.int3 (c := ((st N 2).toNat : Int)) (conv8 (UInt8.toNat_lt _))) rfl ?_
              refine Sx.cons ?_
              refine Sx.yl (.move rfl) rfl ?_
              refine Sx.cons ?_
              refine Sx.yl (.rem rfl rfl (by omega) (c := (k0 : Int)) (by rw [← hk0e]; rfl)) rfl ?_
              refine Sx.cons ?_
              refine Sx.yl (.assign rfl) rfl ?_
              refine Sx.nil ?_
              refine Sx.thenN ?_
              refine Sx.seq ?_
              refine Sx.par (hd := [_, _, _, _, _, _, _, _, _]) 9 [] (by kernel_rfl) (by kernel_rfl) rfl (fun _ _ _ _ _ h => h) ?_
              refine Sx.rMove rfl rfl ?_
              refine Sx.rMove rfl rfl ?_
              refine Sx.rYl rfl (.indexArr Fx.arr46 rfl rfl rfl (by omega) (q := p0 * 16) (by omega)) rfl ?_
              first
                | refine Sx.rYl rfl (.loadS rfl Fx.agg26 (.head _) (vs := ckL (now p0)) rfl (nowL_at now hp4)) rfl ?_
                | refine Sx.rYl rfl (.loadS rfl Fx.agg26 (.tail _ (.head _)) (vs := ckL (now p0)) rfl (nowL_at now hp4)) rfl ?_
                | refine Sx.rYl rfl (.loadS rfl Fx.agg26 (.tail _ (.tail _ (.head _))) (vs := ckL (now p0)) rfl (nowL_at now hp4)) rfl ?_
                | refine Sx.rYl rfl (.loadS rfl Fx.agg26 (.tail _ (.tail _ (.tail _ (.head _)))) (vs := ckL (now p0)) rfl (nowL_at now hp4)) rfl ?_
              refine Sx.rMove rfl rfl ?_
              refine Sx.rMove rfl rfl ?_
              refine Sx.rYl rfl (.indexSl Fx.sl48 rfl rfl rfl (by omega) (q := k0 * 16) (by omega)) rfl ?_
              refine Sx.rYl rfl (Yl.loadRow rfl Fx.agg26 (.head _) (vs := ckL (C k0)) rfl (clL_at C hk0)) rfl ?_
              refine Sx.rYl rfl (.call Fx.call14 rfl (fun W s => merge_any (now p0) (C k0) W)) rfl ?_
              refine Sx.rFin (tl := [_, _]) rfl ?_
              refine Sx.cons ?_
              refine Sx.yl (.indexArr Fx.arr46 rfl rfl rfl (by omega) (q := p0 * 16) (by omega)) rfl ?_
              refine Sx.cons ?_
              refine Sx.stores (vs := ckL (mergeF (now p0) (C k0))) rfl rfl Fx.size26 rfl (ckL_one _) (.tail (.tail (.tail .head))) (by rw [nowL_len, ck_length]; omega) ?_
              rw [nowL_set now hp4]
              refine Sx.nil ?_
              refine Sx.thenN ?_
              refine Sx.par (hd := [_, _, _, _, _, _, _, _]) 8 [] (by kernel_rfl) (by kernel_rfl) rfl (fun _ _ _ _ _ h => h) ?_
              have hb64 : past p0 < 2 ^ 64 := Nat.lt_of_lt_of_le (hI.smallN p0 hp4) (Nat.pow_le_pow_right (by decide) (by omega))
              have hk64 : P k0 < 2 ^ 64 := Nat.lt_of_lt_of_le (hI.small k0 hk0) (Nat.pow_le_pow_right (by decide) (by omega))
              refine Sx.rMove rfl rfl ?_
              refine Sx.rYl rfl (.indexArr Fx.arr47 rfl rfl rfl (by omega) (q := p0) (by omega)) rfl ?_
              first
                | refine Sx.rYl rfl (.load rfl Fx.agg23 (.head _) (pastL_at past hp4)) rfl ?_
                | refine Sx.rYl rfl (.load rfl Fx.agg23 (.tail _ (.head _)) (pastL_at past hp4)) rfl ?_
                | refine Sx.rYl rfl (.load rfl Fx.agg23 (.tail _ (.tail _ (.head _))) (pastL_at past hp4)) rfl ?_
                | refine Sx.rYl rfl (.load rfl Fx.agg23 (.tail _ (.tail _ (.tail _ (.head _)))) (pastL_at past hp4)) rfl ?_
              refine Sx.rMove rfl rfl ?_
              refine Sx.rMove rfl rfl ?_
              refine Sx.rYl rfl (.indexSl Fx.sl22 rfl rfl rfl (by omega) (q := k0) (by omega)) rfl ?_
              refine Sx.rYl rfl (Yl.loadRow1 rfl Fx.agg23 (.tail _ (.head _)) (psL_at P hk0)) rfl ?_
              refine Sx.rYl rfl (.orI rfl rfl (or_nat _ _ hb64 hk64)) rfl ?_
              refine Sx.rFin (tl := [_, _]) rfl ?_
              refine Sx.cons ?_
              refine Sx.yl (.indexArr Fx.arr47 rfl rfl rfl (by omega) (q := p0) (by omega)) rfl ?_
              refine Sx.cons ?_
              refine Sx.store rfl rfl Fx.size23 rfl (.tail (.tail .head)) (by show p0 < 4; omega) (pastL_set past hp4 (past p0 ||| P k0)) ?_
              refine Sx.nil ?_
              refine Sx.thenN ?_
              first
                | exact Sx.meet (X := (Nat → Int) × Nat) (mergeF (now p0) (C k0), past p0 ||| P k0) (mid_merge hI hp4 hk0) ⟨rfl, rfl, rfl, rfl, rfl, rfl, rfl, rfl, trivial⟩ (fun W s => s)
                | exact Sx.meet (X := (Nat → Int) × Nat) (now p0, past p0) (mid_plain hI hp4) ⟨rfl, rfl, rfl, rfl, rfl, rfl, rfl, rfl, trivial⟩ (fun W s => by dsimp only; rw [updN_self, updN_self]; exact s)
            · try simp only [decide_eq_false_iff_not] at h42
              refine Sx.skip ?_
              refine Sx.thenN ?_
              first
                | exact Sx.meet (X := (Nat → Int) × Nat) (mergeF (now p0) (C k0), past p0 ||| P k0) (mid_merge hI hp4 hk0) ⟨rfl, rfl, rfl, rfl, rfl, rfl, rfl, rfl, trivial⟩ (fun W s => s)
                | exact Sx.meet (X := (Nat → Int) × Nat) (now p0, past p0) (mid_plain hI hp4) ⟨rfl, rfl, rfl, rfl, rfl, rfl, rfl, rfl, trivial⟩ (fun W s => by dsimp only; rw [updN_self, updN_self]; exact s)
          · try simp only [decide_eq_false_iff_not] at h39
            refine Sx.cons ?_
            refine Sx.guardF rfl rfl rfl rfl ?_
            refine Sx.cons ?_
            refine Sx.guardF rfl rfl rfl rfl ?_
            refine Sx.cons ?_
            refine Sx.yl (.pickF rfl rfl) rfl ?_
            refine Sx.nil ?_
            refine Sx.thenN ?_
            refine Sx.condF rfl ?_
            refine Sx.skip ?_
            refine Sx.thenN ?_
            first
              | exact Sx.meet (X := (Nat → Int) × Nat) (mergeF (now p0) (C k0), past p0 ||| P k0) (mid_merge hI hp4 hk0) ⟨rfl, rfl, rfl, rfl, rfl, rfl, rfl, rfl, trivial⟩ (fun W s => s)
              | exact Sx.meet (X := (Nat → Int) × Nat) (now p0, past p0) (mid_plain hI hp4) ⟨rfl, rfl, rfl, rfl, rfl, rfl, rfl, rfl, trivial⟩ (fun W s => by dsimp only; rw [updN_self, updN_self]; exact s)
        · intro z hC
          obtain ⟨M, S⟩ := z
          dsimp only at hC ⊢
          have hM : Mid pr now N C p0 M S := hC
          have hU : U64 M := fun m => by have := hM.rng m; omega
          have hS64 : S < 2 ^ 64 := Nat.lt_of_lt_of_le hM.small (Nat.pow_le_pow_right (by decide) (by omega))
          have hN64 : 2 ^ N < 2 ^ 64 := Nat.pow_lt_pow_right (by decide) (by omega)
          refine Sx.seq ?_
          refine Sx.region ?_
          refine Sx.cons ?_
          refine Sx.yl (.move rfl) rfl ?_
          refine Sx.cons ?_
          refine Sx.yl (.move rfl) rfl ?_
          refine Sx.cons ?_
          refine Sx.yl (.indexArr Fx.arr46 rfl rfl rfl (by omega) (q := p0 * 16) (by omega)) rfl ?_
          refine Sx.cons ?_
          first
            | refine Sx.yl (.loadS rfl Fx.agg26 (.head _) (vs := ckL (M)) rfl (fun j u h => nowL_at _ hp4 j u (by rw [updN_same]; exact h))) rfl ?_
            | refine Sx.yl (.loadS rfl Fx.agg26 (.tail _ (.head _)) (vs := ckL (M)) rfl (fun j u h => nowL_at _ hp4 j u (by rw [updN_same]; exact h))) rfl ?_
            | refine Sx.yl (.loadS rfl Fx.agg26 (.tail _ (.tail _ (.head _))) (vs := ckL (M)) rfl (fun j u h => nowL_at _ hp4 j u (by rw [updN_same]; exact h))) rfl ?_
            | refine Sx.yl (.loadS rfl Fx.agg26 (.tail _ (.tail _ (.tail _ (.head _)))) (vs := ckL (M)) rfl (fun j u h => nowL_at _ hp4 j u (by rw [updN_same]; exact h))) rfl ?_
          refine Sx.cons ?_
          refine Sx.yl (.move rfl) rfl ?_
          refine Sx.cons ?_
          refine Sx.yl (.call Fx.call23 rfl (fun W s => tick_any M hU (p0 : Int) W)) rfl ?_
          refine Sx.cons ?_
          refine Sx.yl (.indexArr Fx.arr46 rfl rfl rfl (by omega) (q := p0 * 16) (by omega)) rfl ?_
          refine Sx.cons ?_
          refine Sx.stores (vs := ckL (tickF M (p0 : Int))) rfl rfl Fx.size26 rfl (ckL_one _) (.tail (.tail (.tail .head))) (by rw [nowL_len, ck_length]; omega) ?_
          rw [nowL_set _ hp4, updN_upd]
          refine Sx.nil ?_
          refine Sx.thenN ?_
          refine Sx.seq ?_
          refine Sx.par (hd := [_, _, _, _, _, _]) 6 [] (by kernel_rfl) (by kernel_rfl) rfl (fun _ _ _ _ _ h => h) ?_
          refine Sx.rMove rfl rfl ?_
          refine Sx.rYl rfl (.indexArr Fx.arr47 rfl rfl rfl (by omega) (q := p0) (by omega)) rfl ?_
          first
            | refine Sx.rYl rfl (.load rfl Fx.agg23 (.head _) ((pastL_at _ hp4).trans (by rw [updN_same]))) rfl ?_
            | refine Sx.rYl rfl (.load rfl Fx.agg23 (.tail _ (.head _)) ((pastL_at _ hp4).trans (by rw [updN_same]))) rfl ?_
            | refine Sx.rYl rfl (.load rfl Fx.agg23 (.tail _ (.tail _ (.head _))) ((pastL_at _ hp4).trans (by rw [updN_same]))) rfl ?_
            | refine Sx.rYl rfl (.load rfl Fx.agg23 (.tail _ (.tail _ (.tail _ (.head _)))) ((pastL_at _ hp4).trans (by rw [updN_same]))) rfl ?_
          refine Sx.rMove rfl rfl ?_
          refine Sx.rYl rfl (.shl rfl rfl rfl (by show N ≤ 64; omega) (shl_nat (by omega))) rfl ?_
          refine Sx.rYl rfl (.orI rfl rfl (or_nat _ _ hS64 hN64)) rfl ?_
          refine Sx.rFin (tl := [_, _]) rfl ?_
          refine Sx.cons ?_
          refine Sx.yl (.indexArr Fx.arr47 rfl rfl rfl (by omega) (q := p0) (by omega)) rfl ?_
          refine Sx.cons ?_
          refine Sx.store rfl rfl Fx.size23 rfl (.tail (.tail .head)) (by show p0 < 4; omega) (pastL_set _ hp4 (S ||| 2 ^ N)) ?_
          rw [updN_upd]
          refine Sx.nil ?_
          refine Sx.thenN ?_
          refine Sx.seq ?_
          refine Sx.region ?_
          refine Sx.cons ?_
          refine Sx.yl (.move rfl) rfl ?_
          refine Sx.cons ?_
          refine Sx.yl (.move rfl) rfl ?_
          refine Sx.cons ?_
          refine Sx.yl (.indexArr Fx.arr46 rfl rfl rfl (by omega) (q := p0 * 16) (by omega)) rfl ?_
          refine Sx.cons ?_
          first
            | refine Sx.yl (.loadS rfl Fx.agg26 (.head _) (vs := ckL (tickF M (p0 : Int))) rfl (fun j u h => nowL_at _ hp4 j u (by rw [updN_same]; exact h))) rfl ?_
            | refine Sx.yl (.loadS rfl Fx.agg26 (.tail _ (.head _)) (vs := ckL (tickF M (p0 : Int))) rfl (fun j u h => nowL_at _ hp4 j u (by rw [updN_same]; exact h))) rfl ?_
            | refine Sx.yl (.loadS rfl Fx.agg26 (.tail _ (.tail _ (.head _))) (vs := ckL (tickF M (p0 : Int))) rfl (fun j u h => nowL_at _ hp4 j u (by rw [updN_same]; exact h))) rfl ?_
            | refine Sx.yl (.loadS rfl Fx.agg26 (.tail _ (.tail _ (.tail _ (.head _)))) (vs := ckL (tickF M (p0 : Int))) rfl (fun j u h => nowL_at _ hp4 j u (by rw [updN_same]; exact h))) rfl ?_
          refine Sx.cons ?_
          refine Sx.buildSlice (e := 26) (l := ckL (tickF M (p0 : Int))) rfl (by kernel_rfl) rfl (fun b88 => ?_)
          refine Sx.cons ?_
          refine Sx.append (news := ckL (tickF M (p0 : Int))) Fx.row48 rfl (fun _ => .tail .head) rfl (.box (.head _) (fun j u h => by rw [Nat.zero_add]; exact h)) rfl (ckL_one _) (by simp [maxLen]; omega) (by omega) rfl (fun r5n hr5n => ?_)
          refine Sx.cons ?_
          refine Sx.yl (.assign rfl) rfl ?_
          refine Sx.nil ?_
          refine Sx.thenN ?_
          refine Sx.region ?_
          refine Sx.cons ?_
          refine Sx.yl (.move rfl) rfl ?_
          refine Sx.cons ?_
          refine Sx.yl (.move rfl) rfl ?_
          refine Sx.cons ?_
          refine Sx.yl (.indexArr Fx.arr47 rfl rfl rfl (by omega) (q := p0) (by omega)) rfl ?_
          refine Sx.cons ?_
          first
            | refine Sx.yl (.load rfl Fx.agg23 (.head _) ((pastL_at _ hp4).trans (by rw [updN_same]))) rfl ?_
            | refine Sx.yl (.load rfl Fx.agg23 (.tail _ (.head _)) ((pastL_at _ hp4).trans (by rw [updN_same]))) rfl ?_
            | refine Sx.yl (.load rfl Fx.agg23 (.tail _ (.tail _ (.head _))) ((pastL_at _ hp4).trans (by rw [updN_same]))) rfl ?_
            | refine Sx.yl (.load rfl Fx.agg23 (.tail _ (.tail _ (.tail _ (.head _)))) ((pastL_at _ hp4).trans (by rw [updN_same]))) rfl ?_
            | refine Sx.yl (.load rfl Fx.agg23 (.tail _ (.tail _ (.tail _ (.tail _ (.head _))))) ((pastL_at _ hp4).trans (by rw [updN_same]))) rfl ?_
          refine Sx.cons ?_
          refine Sx.buildSlice (e := 23) (l := [.int .u64 ((S ||| 2 ^ N : Nat) : Int)]) rfl (by kernel_rfl) rfl (fun b94 => ?_)
          refine Sx.cons ?_
          refine Sx.append (news := [.int .u64 ((S ||| 2 ^ N : Nat) : Int)]) Fx.row22 rfl (fun _ => .tail (.tail (.tail .head))) rfl (.box (.head _) (fun j u h => by rw [Nat.zero_add]; exact h)) rfl (by simp [Value.oneCell']) (by simp [maxLen]; omega) (by omega) rfl (fun r6n hr6n => ?_)
          refine Sx.cons ?_
          refine Sx.yl (.assign rfl) rfl ?_
          refine Sx.nil ?_
          refine Sx.blkN ?_
          refine Sx.thenN ?_
          refine Sx.region ?_
          refine Sx.cons ?_
          refine Sx.yl (.move rfl) rfl ?_
          refine Sx.cons ?_
          refine Sx.yl (.add rfl rfl (w64 (by omega) (by omega))) rfl ?_
          refine Sx.cons ?_
          refine Sx.yl (.assign rfl) rfl ?_
          refine Sx.nil ?_
          refine Sx.thenN ?_
          exact Sx.again (x := (⟨N, now, past, C, P, r5, r6⟩ : Sd)) (⟨N + 1, updN now p0 (tickF M (p0 : Int)), updN past p0 (S ||| 2 ^ N), updN C N (tickF M (p0 : Int)), updN P N (S ||| 2 ^ N), r5n, r6n⟩ : Sd) ⟨⟨⟨_, inv_step hI hp4 hM (by omega)⟩, by dsimp only; omega, by dsimp only; omega⟩, by dsimp only; omega⟩ ⟨rfl, rfl, rfl, rfl, rfl, rfl, rfl, trivial⟩ (fun W s => by dsimp only; rw [clL_new, psL_new]; exact s.drop.drop)
      · try simp only [decide_eq_false_iff_not] at h22
        refine Sx.exit ?_
        refine Sx.thenE ?_
        refine Sx.thenE ?_
        refine Sx.blkE ?_
        refine Sx.thenN ?_
        exact Sx.meet (X := Sd) ⟨N, now, past, C, P, r5, r6⟩ ⟨⟨pr, hI⟩, by omega⟩ ⟨rfl, rfl, rfl, trivial⟩ (fun W s => s.sublist (.cons_cons _ (.cons_cons _ (List.nil_sublist _))))
    · try simp only [decide_eq_false_iff_not] at h19
      refine Sx.cons ?_
      refine Sx.guardF rfl rfl rfl rfl ?_
      refine Sx.cons ?_
      refine Sx.guardF rfl rfl rfl rfl ?_
      refine Sx.cons ?_
      refine Sx.yl (.pickF rfl rfl) rfl ?_
      refine Sx.nil ?_
      refine Sx.thenN ?_
      refine Sx.condF rfl ?_
      refine Sx.exit ?_
      refine Sx.thenE ?_
      refine Sx.thenE ?_
      refine Sx.blkE ?_
      refine Sx.thenN ?_
      exact Sx.meet (X := Sd) ⟨N, now, past, C, P, r5, r6⟩ ⟨⟨pr, hI⟩, by omega⟩ ⟨rfl, rfl, rfl, trivial⟩ (fun W s => s.sublist (.cons_cons _ (.cons_cons _ (List.nil_sublist _))))
  · intro z hC
    obtain ⟨N, now, past, C, P, r5, r6⟩ := z
    dsimp only at hC ⊢
    obtain ⟨⟨pr, hI⟩, hn2⟩ := hC
    refine rowAny (.head _) (fun p5 c5 hr5 => ?_)
    subst hr5
    refine rowAny (.tail _ (.head _)) (fun p6 c6 hr6 => ?_)
    subst hr6
    refine Sx.seq ?_
    refine Sx.seq ?_
    refine Sx.region ?_
    refine Sx.cons ?_
    refine Sx.yl (.move rfl) rfl ?_
    refine Sx.cons ?_
    refine Sx.yl (.lenSl Fx.sl48 rfl) rfl ?_
    refine Sx.cons ?_
    refine Sx.yl (.move rfl) rfl ?_
    refine Sx.nil ?_
    refine Sx.thenN ?_
    refine Sx.blk ?_
    -- live at the head, not kept: [110, 111, 112, 113, 114, 115, 116, 117, 132, 133, 134, 135, 136, 137, 138, 139, 140, 141, 142, 143, 144]
    refine Sx.loop (X := Nat) (fun i => [(2, .bool false), (5, .slice p5 N c5), (6, .slice p6 N c6), (97, .int .i64 (N : Nat)), (98, .int .i64 (i : Nat))]) (fun i => H) (fun i => [.row 26 16 (.slice p5 N c5) N (clL N C), .row 23 1 (.slice p6 N c6) N (psL N P)]) (fun i => i ≤ N) (fun i => N - i) 0 (by omega) ⟨rfl, rfl, rfl, rfl, rfl, trivial⟩ (fun W s => s) ?_
    intro i hC
    refine Sx.seq ?_
    refine Sx.region ?_
    refine Sx.cons ?_
    refine Sx.yl (.lss rfl rfl) rfl ?_
    refine Sx.nil ?_
    refine Sx.thenN ?_
    refine Sx.seq ?_
    refine Sx.cond rfl (fun h99 => ?_) (fun h99 => ?_)
    · try simp only [decide_eq_true_eq] at h99
      refine Sx.skip ?_
      refine Sx.thenN ?_
      refine Sx.seq ?_
      refine Sx.blk ?_
      refine Sx.seq ?_
      refine Sx.region ?_
      refine Sx.cons ?_
      refine Sx.yl (.move rfl) rfl ?_
      refine Sx.cons ?_
      refine Sx.yl (.assign rfl) rfl ?_
      refine Sx.nil ?_
      refine Sx.thenN ?_
      refine Sx.seq ?_
      refine Sx.region ?_
      refine Sx.cons ?_
      refine Sx.yl (.move rfl) rfl ?_
      refine Sx.cons ?_
      refine Sx.yl (.lenSl Fx.sl48 rfl) rfl ?_
      refine Sx.cons ?_
      refine Sx.yl (.move rfl) rfl ?_
      refine Sx.nil ?_
      refine Sx.thenN ?_
      refine Sx.blk ?_
      -- live at the head, not kept: [110, 111, 112, 113, 114, 115, 116, 117, 132, 133, 134, 135, 136, 137, 138, 139, 140, 141, 142, 143, 144]
      refine Sx.loop (X := Nat) (fun j => [(2, .bool false), (5, .slice p5 N c5), (6, .slice p6 N c6), (97, .int .i64 (N : Nat)), (98, .int .i64 (i : Nat)), (10, .int .i64 (i : Nat)), (102, .int .i64 (N : Nat)), (103, .int .i64 (j : Nat))]) (fun j => H) (fun j => [.row 26 16 (.slice p5 N c5) N (clL N C), .row 23 1 (.slice p6 N c6) N (psL N P)]) (fun j => j ≤ N) (fun j => N - j) 0 (by omega) ⟨rfl, rfl, rfl, rfl, rfl, rfl, rfl, rfl, trivial⟩ (fun W s => s) ?_
      intro j hC
      refine Sx.seq ?_
      refine Sx.region ?_
      refine Sx.cons ?_
      refine Sx.yl (.lss rfl rfl) rfl ?_
      refine Sx.nil ?_
      refine Sx.thenN ?_
      refine Sx.seq ?_
      refine Sx.cond rfl (fun h104 => ?_) (fun h104 => ?_)
      · try simp only [decide_eq_true_eq] at h104
        have hi : i < N := by omega
        have hj : j < N := by omega
        refine Sx.rowCase (.head _) (by omega) (fun b5 c5n hr5 hc5 => ?_)
        cases hr5
        refine Sx.rowCase (.tail _ (.head _)) (by omega) (fun b6 c6n hr6 hc6 => ?_)
        cases hr6
        refine Sx.skip ?_
        refine Sx.thenN ?_
        refine Sx.seq ?_
        refine Sx.blk ?_
        refine Sx.seq ?_
        refine Sx.region ?_
        refine Sx.cons ?_
        refine Sx.yl (.move rfl) rfl ?_
        refine Sx.cons ?_
        refine Sx.yl (.assign rfl) rfl ?_
        refine Sx.nil ?_
        refine Sx.thenN ?_
        refine Sx.seq ?_
        refine Sx.region ?_
        refine Sx.cons ?_
        refine Sx.yl (.move rfl) rfl ?_
        refine Sx.cons ?_
        refine Sx.yl (.move rfl) rfl ?_
        refine Sx.cons ?_
        refine Sx.yl (.neq rfl rfl) rfl ?_
        refine Sx.cons ?_
        refine Sx.yl (.move rfl) rfl ?_
        refine Sx.bool (fun h109 => ?_) (fun h109 => ?_)
        · try simp only [decide_eq_true_eq] at h109
          have hne : i ≠ j := by omega
          obtain ⟨hbit, haft⟩ := inv_bit hI hi hj hne
          refine Sx.cons ?_
          refine Sx.guardT rfl rfl ?_
          refine Sx.yl (.move rfl) rfl ?_
          refine Sx.cons ?_
          refine Sx.guardT rfl rfl ?_
          refine Sx.yl (.move rfl) rfl ?_
          refine Sx.cons ?_
          refine Sx.guardT rfl rfl ?_
          refine Sx.yl (.indexSl Fx.sl22 rfl rfl rfl (by omega) (q := j) (by omega)) rfl ?_
          refine Sx.cons ?_
          refine Sx.guardT rfl rfl ?_
          refine Sx.yl (Yl.loadRow1 rfl Fx.agg23 (.tail _ (.head _)) (psL_at P hj)) rfl ?_
          refine Sx.cons ?_
          refine Sx.guardT rfl rfl ?_
          refine Sx.yl (.move rfl) rfl ?_
          refine Sx.cons ?_
          refine Sx.guardT rfl rfl ?_
          refine Sx.yl (.shr rfl rfl rfl (by show i ≤ 64; omega) (shr_nat (P j) i)) rfl ?_
          refine Sx.cons ?_
          refine Sx.guardT rfl rfl ?_
          refine Sx.yl (.andI rfl rfl (and1_nat _ (Nat.lt_of_le_of_lt (Nat.div_le_self _ _) (Nat.lt_of_lt_of_le (hI.small j hj) (Nat.pow_le_pow_right (by decide) (by omega)))))) rfl ?_
          refine Sx.cons ?_
          refine Sx.guardT rfl rfl ?_
          refine Sx.yl (.eql rfl rfl) rfl ?_
          refine Sx.cons ?_
          refine Sx.yl (.pickT rfl rfl) rfl ?_
          refine Sx.cons ?_
          refine Sx.yl (.assign rfl) rfl ?_
          refine Sx.nil ?_
          refine Sx.thenN ?_
          refine Sx.seq ?_
          refine Sx.par (hd := [_, _, _, _, _, _, _, _, _, _, _, _, _, _, _, _, _, _, _, _, _, _, _, _, _, _]) 26 [] (by kernel_rfl) (by kernel_rfl) rfl (fun _ _ _ _ _ h => h) ?_
          refine Sx.rMove rfl rfl ?_
          refine Sx.rMove rfl rfl ?_
          refine Sx.rMove rfl rfl ?_
          refine Sx.rYl rfl (.indexSl Fx.sl48 rfl rfl rfl (by omega) (q := i * 16) (by omega)) rfl ?_
          refine Sx.rYl rfl (Yl.loadRow rfl Fx.agg26 (.head _) (vs := ckL (C i)) rfl (clL_at C (by omega))) rfl ?_
          refine Sx.rMove rfl rfl ?_
          refine Sx.rMove rfl rfl ?_
          refine Sx.rYl rfl (.indexSl Fx.sl48 rfl rfl rfl (by omega) (q := j * 16) (by omega)) rfl ?_
          refine Sx.rYl rfl (Yl.loadRow rfl Fx.agg26 (.head _) (vs := ckL (C j)) rfl (clL_at C (by omega))) rfl ?_
          refine Sx.rYl rfl (.call Fx.call18 rfl (fun W s => compare_any (C i) (C _) W)) rfl ?_
          refine Sx.rYl rfl (.eql rfl rfl) rfl ?_
          refine Sx.rYl rfl (Yl.castC (v' := .bool false) (.neqB Fx.bool4 rfl rfl) (congrArg Value.bool (by first | (subst hij; rw [inv_same hI hi]; rfl) | (rw [hbit]; cases decide (cmpF (C i) (C j) = 2) <;> rfl)))) rfl ?_
          refine Sx.rMove rfl rfl ?_
          refine Sx.rYlG rfl rfl rfl (.move rfl) rfl ?_
          refine Sx.rYlG rfl rfl rfl (.move rfl) rfl ?_
          refine Sx.rBool (fun h133 => ?_) (fun h133 => ?_)
          · try simp only [decide_eq_true_eq] at h133
            have haf := haft h133
            refine Sx.rYlG rfl rfl rfl (.move rfl) rfl ?_
            refine Sx.rYlG rfl rfl rfl (.move rfl) rfl ?_
            refine Sx.rYlG rfl rfl rfl (.indexSl Fx.sl48 rfl rfl rfl (by omega) (q := j * 16) (by omega)) rfl ?_
            refine Sx.rYlG rfl rfl rfl (Yl.loadRow rfl Fx.agg26 (.head _) (vs := ckL (C j)) rfl (clL_at C (by omega))) rfl ?_
            refine Sx.rYlG rfl rfl rfl (.move rfl) rfl ?_
            refine Sx.rYlG rfl rfl rfl (.move rfl) rfl ?_
            refine Sx.rYlG rfl rfl rfl (.indexSl Fx.sl48 rfl rfl rfl (by omega) (q := i * 16) (by omega)) rfl ?_
            refine Sx.rYlG rfl rfl rfl (Yl.loadRow rfl Fx.agg26 (.head _) (vs := ckL (C i)) rfl (clL_at C (by omega))) rfl ?_
            refine Sx.rYlG rfl rfl rfl (.call Fx.call18 rfl (fun W s => compare_any (C _) (C i) W)) rfl ?_
            refine Sx.rYlG rfl rfl rfl (Yl.castC (v' := .bool false) (.neq rfl rfl) (congrArg Value.bool (by rw [haf]; decide))) rfl ?_
            refine Sx.rYlG rfl rfl rfl (.pickT rfl rfl) rfl ?_
            refine Sx.rFin (tl := [_]) rfl ?_
            refine Sx.cons ?_
            refine Sx.yl (.pickF rfl rfl) rfl ?_
            refine Sx.nil ?_
            refine Sx.thenN ?_
            refine Sx.condF rfl ?_
            refine Sx.skip ?_
            refine Sx.blkN ?_
            refine Sx.thenN ?_
            refine Sx.region ?_
            refine Sx.cons ?_
            refine Sx.yl (.add rfl rfl (w64 (by omega) (by omega))) rfl ?_
            refine Sx.cons ?_
            refine Sx.yl (.move rfl) rfl ?_
            refine Sx.nil ?_
            refine Sx.thenN ?_
            exact Sx.again (x := j) (j + 1) ⟨by omega, by omega⟩ ⟨rfl, rfl, rfl, rfl, rfl, rfl, rfl, rfl, trivial⟩ (fun W s => s)
          · try simp only [decide_eq_false_iff_not] at h133
            refine Sx.rSkip rfl rfl rfl rfl ?_
            refine Sx.rSkip rfl rfl rfl rfl ?_
            refine Sx.rSkip rfl rfl rfl rfl ?_
            refine Sx.rSkip rfl rfl rfl rfl ?_
            refine Sx.rSkip rfl rfl rfl rfl ?_
            refine Sx.rSkip rfl rfl rfl rfl ?_
            refine Sx.rSkip rfl rfl rfl rfl ?_
            refine Sx.rSkip rfl rfl rfl rfl ?_
            refine Sx.rSkip rfl rfl rfl rfl ?_
            refine Sx.rSkip rfl rfl rfl rfl ?_
            refine Sx.rYlG rfl rfl rfl (.pickF rfl rfl) rfl ?_
            refine Sx.rFin (tl := [_]) rfl ?_
            refine Sx.cons ?_
            refine Sx.yl (.pickF rfl rfl) rfl ?_
            refine Sx.nil ?_
            refine Sx.thenN ?_
            refine Sx.condF rfl ?_
            refine Sx.skip ?_
            refine Sx.blkN ?_
            refine Sx.thenN ?_
            refine Sx.region ?_
            refine Sx.cons ?_
            refine Sx.yl (.add rfl rfl (w64 (by omega) (by omega))) rfl ?_
            refine Sx.cons ?_
            refine Sx.yl (.move rfl) rfl ?_
            refine Sx.nil ?_
            refine Sx.thenN ?_
            exact Sx.again (x := j) (j + 1) ⟨by omega, by omega⟩ ⟨rfl, rfl, rfl, rfl, rfl, rfl, rfl, rfl, trivial⟩ (fun W s => s)
        · try simp only [decide_eq_false_iff_not] at h109
          have hij : i = j := by omega
          refine Sx.cons ?_
          refine Sx.guardF rfl rfl rfl rfl ?_
          refine Sx.cons ?_
          refine Sx.guardF rfl rfl rfl rfl ?_
          refine Sx.cons ?_
          refine Sx.guardF rfl rfl rfl rfl ?_
          refine Sx.cons ?_
          refine Sx.guardF rfl rfl rfl rfl ?_
          refine Sx.cons ?_
          refine Sx.guardF rfl rfl rfl rfl ?_
          refine Sx.cons ?_
          refine Sx.guardF rfl rfl rfl rfl ?_
          refine Sx.cons ?_
          refine Sx.guardF rfl rfl rfl rfl ?_
          refine Sx.cons ?_
          refine Sx.guardF rfl rfl rfl rfl ?_
          refine Sx.cons ?_
          refine Sx.yl (.pickF rfl rfl) rfl ?_
          refine Sx.cons ?_
          refine Sx.yl (.assign rfl) rfl ?_
          refine Sx.nil ?_
          refine Sx.thenN ?_
          refine Sx.seq ?_
          refine Sx.par (hd := [_, _, _, _, _, _, _, _, _, _, _, _, _, _, _, _, _, _, _, _, _, _, _, _, _, _]) 26 [] (by kernel_rfl) (by kernel_rfl) rfl (fun _ _ _ _ _ h => h) ?_
          refine Sx.rMove rfl rfl ?_
          refine Sx.rMove rfl rfl ?_
          refine Sx.rMove rfl rfl ?_
          refine Sx.rYl rfl (.indexSl Fx.sl48 rfl rfl rfl (by omega) (q := i * 16) (by omega)) rfl ?_
          refine Sx.rYl rfl (Yl.loadRow rfl Fx.agg26 (.head _) (vs := ckL (C i)) rfl (clL_at C (by omega))) rfl ?_
          refine Sx.rMove rfl rfl ?_
          refine Sx.rMove rfl rfl ?_
          refine Sx.rYl rfl (.indexSl Fx.sl48 rfl rfl rfl (by omega) (q := j * 16) (by omega)) rfl ?_
          refine Sx.rYl rfl (Yl.loadRow rfl Fx.agg26 (.head _) (vs := ckL (C j)) rfl (clL_at C (by omega))) rfl ?_
          refine Sx.rYl rfl (.call Fx.call18 rfl (fun W s => compare_any (C i) (C _) W)) rfl ?_
          refine Sx.rYl rfl (.eql rfl rfl) rfl ?_
          refine Sx.rYl rfl (Yl.castC (v' := .bool false) (.neqB Fx.bool4 rfl rfl) (congrArg Value.bool (by first | (subst hij; rw [inv_same hI hi]; rfl) | (rw [hbit]; cases decide (cmpF (C i) (C j) = 2) <;> rfl)))) rfl ?_
          refine Sx.rMove rfl rfl ?_
          refine Sx.rYlG rfl rfl rfl (.move rfl) rfl ?_
          refine Sx.rYlG rfl rfl rfl (.move rfl) rfl ?_
          refine Sx.rSkip rfl rfl rfl rfl ?_
          refine Sx.rSkip rfl rfl rfl rfl ?_
          refine Sx.rSkip rfl rfl rfl rfl ?_
          refine Sx.rSkip rfl rfl rfl rfl ?_
          refine Sx.rSkip rfl rfl rfl rfl ?_
          refine Sx.rSkip rfl rfl rfl rfl ?_
          refine Sx.rSkip rfl rfl rfl rfl ?_
          refine Sx.rSkip rfl rfl rfl rfl ?_
          refine Sx.rSkip rfl rfl rfl rfl ?_
          refine Sx.rSkip rfl rfl rfl rfl ?_
          refine Sx.rYlG rfl rfl rfl (.pickF rfl rfl) rfl ?_
          refine Sx.rFin (tl := [_]) rfl ?_
          refine Sx.cons ?_
          refine Sx.yl (.pickF rfl rfl) rfl ?_
          refine Sx.nil ?_
          refine Sx.thenN ?_
          refine Sx.condF rfl ?_
          refine Sx.skip ?_
          refine Sx.blkN ?_
          refine Sx.thenN ?_
          refine Sx.region ?_
          refine Sx.cons ?_
          refine Sx.yl (.add rfl rfl (w64 (by omega) (by omega))) rfl ?_
          refine Sx.cons ?_
          refine Sx.yl (.move rfl) rfl ?_
          refine Sx.nil ?_
          refine Sx.thenN ?_
          exact Sx.again (x := j) (j + 1) ⟨by omega, by omega⟩ ⟨rfl, rfl, rfl, rfl, rfl, rfl, rfl, rfl, trivial⟩ (fun W s => s)
      · try simp only [decide_eq_false_iff_not] at h104
        refine Sx.exit ?_
        refine Sx.thenE ?_
        refine Sx.thenE ?_
        refine Sx.blkE ?_
        refine Sx.blkN ?_
        refine Sx.thenN ?_
        refine Sx.region ?_
        refine Sx.cons ?_
        refine Sx.yl (.add rfl rfl (w64 (by omega) (by omega))) rfl ?_
        refine Sx.cons ?_
        refine Sx.yl (.move rfl) rfl ?_
        refine Sx.nil ?_
        refine Sx.thenN ?_
        exact Sx.again (x := i) (i + 1) ⟨by omega, by omega⟩ ⟨rfl, rfl, rfl, rfl, rfl, trivial⟩ (fun W s => s)
    · try simp only [decide_eq_false_iff_not] at h99
      refine Sx.exit ?_
      refine Sx.thenE ?_
      refine Sx.thenE ?_
      refine Sx.blkE ?_
      refine Sx.thenN ?_
      refine Sx.seq ?_
      refine Sx.region ?_
      refine Sx.cons ?_
      refine Sx.yl (.assign rfl) rfl ?_
      refine Sx.nil ?_
      refine Sx.thenN ?_
      refine Sx.ret ?_
      refine Sx.ret1 (.inl rfl) rfl (.tmp rfl) (fun W s => ⟨rfl, s.ext⟩)
end Go.Proofs.YtnmickfdflinpaaDoor
