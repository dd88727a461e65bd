/- Texts of the proof, one behind the other. -/
import Derived.Test.YtmbiojpcidccjaaDoorMe
import Derived.Lib.ItoaNum
import Derived.Lib.ItoaLen
import Derived.Lib.ParseIntB
import Derived.Lib.ParseIntBCases
import Derived.Lib.IndexMore
/- Facts on types and functions. -/
namespace Go.Proofs.YtmbiojpcidccjaaDoor
open Go.RowKit Go.Par Go.Sx
theorem Fx.bsl56_25 (x0 : ByteArray) (x1 : ByteArray) (x2 : ByteArray) (x3 : ByteArray) (x4 : ByteArray) (x5 : ByteArray) (x6 : ByteArray) (x7 : ByteArray) (x8 : ByteArray) (x9 : ByteArray) (x10 : ByteArray) (x11 : ByteArray) (x12 : ByteArray) (x13 : ByteArray) (x14 : ByteArray) (x15 : ByteArray) (x16 : ByteArray) (x17 : ByteArray) (x18 : ByteArray) (x19 : ByteArray) (x20 : ByteArray) (x21 : ByteArray) (x22 : ByteArray) (x23 : ByteArray) (x24 : ByteArray) : bslN Tryd.prog 56 25 [(0, .string x0), (1, .string x1), (2, .string x2), (3, .string x3), (4, .string x4), (5, .string x5), (6, .string x6), (7, .string x7), (8, .string x8), (9, .string x9), (10, .string x10), (11, .string x11), (12, .string x12), (13, .string x13), (14, .string x14), (15, .string x15), (16, .string x16), (17, .string x17), (18, .string x18), (19, .string x19), (20, .string x20), (21, .string x21), (22, .string x22), (23, .string x23), (24, .string x24)] = some (9, [.string x0, .string x1, .string x2, .string x3, .string x4, .string x5, .string x6, .string x7, .string x8, .string x9, .string x10, .string x11, .string x12, .string x13, .string x14, .string x15, .string x16, .string x17, .string x18, .string x19, .string x20, .string x21, .string x22, .string x23, .string x24]) := by kernel_rfl
theorem Fx.bsl56_39 (x0 : ByteArray) (x1 : ByteArray) (x2 : ByteArray) (x3 : ByteArray) (x4 : ByteArray) (x5 : ByteArray) (x6 : ByteArray) (x7 : ByteArray) (x8 : ByteArray) (x9 : ByteArray) (x10 : ByteArray) (x11 : ByteArray) (x12 : ByteArray) (x13 : ByteArray) (x14 : ByteArray) (x15 : ByteArray) (x16 : ByteArray) (x17 : ByteArray) (x18 : ByteArray) (x19 : ByteArray) (x20 : ByteArray) (x21 : ByteArray) (x22 : ByteArray) (x23 : ByteArray) (x24 : ByteArray) (x25 : ByteArray) (x26 : ByteArray) (x27 : ByteArray) (x28 : ByteArray) (x29 : ByteArray) (x30 : ByteArray) (x31 : ByteArray) (x32 : ByteArray) (x33 : ByteArray) (x34 : ByteArray) (x35 : ByteArray) (x36 : ByteArray) (x37 : ByteArray) (x38 : ByteArray) : bslN Tryd.prog 56 39 [(0, .string x0), (1, .string x1), (2, .string x2), (3, .string x3), (4, .string x4), (5, .string x5), (6, .string x6), (7, .string x7), (8, .string x8), (9, .string x9), (10, .string x10), (11, .string x11), (12, .string x12), (13, .string x13), (14, .string x14), (15, .string x15), (16, .string x16), (17, .string x17), (18, .string x18), (19, .string x19), (20, .string x20), (21, .string x21), (22, .string x22), (23, .string x23), (24, .string x24), (25, .string x25), (26, .string x26), (27, .string x27), (28, .string x28), (29, .string x29), (30, .string x30), (31, .string x31), (32, .string x32), (33, .string x33), (34, .string x34), (35, .string x35), (36, .string x36), (37, .string x37), (38, .string x38)] = some (9, [.string x0, .string x1, .string x2, .string x3, .string x4, .string x5, .string x6, .string x7, .string x8, .string x9, .string x10, .string x11, .string x12, .string x13, .string x14, .string x15, .string x16, .string x17, .string x18, .string x19, .string x20, .string x21, .string x22, .string x23, .string x24, .string x25, .string x26, .string x27, .string x28, .string x29, .string x30, .string x31, .string x32, .string x33, .string x34, .string x35, .string x36, .string x37, .string x38]) := by kernel_rfl
end Go.Proofs.YtmbiojpcidccjaaDoor
/- Contracts: skip, Keywords, symbols. -/
namespace Go.Proofs.YtmbiojpcidccjaaDoor
open Go.RowKit Go.Par Go.Sx
theorem blk_of {c : UInt8} (h : (c.toNat : Int) = 32 ∨ (c.toNat : Int) = 9 ∨ (c.toNat : Int) = 10 ∨ (c.toNat : Int) = 13) : blkB c = true := by
  simp only [blkB, Bool.or_eq_true, decide_eq_true_eq, ← UInt8.toNat_inj]
  rcases h with h | h | h | h
  · exact .inl (.inl (.inl (by show c.toNat = 32; omega)))
  · exact .inl (.inl (.inr (by show c.toNat = 9; omega)))
  · exact .inl (.inr (by show c.toNat = 10; omega))
  · exact .inr (by show c.toNat = 13; omega)
theorem nblk_of {c : UInt8} (h : ¬ ((c.toNat : Int) = 32 ∨ (c.toNat : Int) = 9 ∨ (c.toNat : Int) = 10 ∨ (c.toNat : Int) = 13)) : blkB c = false := by
  cases e : blkB c with
  | false => rfl
  | true =>
    refine absurd ?_ h
    simp only [blkB, Bool.or_eq_true, decide_eq_true_eq] at e
    rcases e with ((e | e) | e) | e <;> subst e <;> simp
theorem skip_blk {s R : Str} {k : Nat} (hk : k < s.length) (hb : blkB s[k] = true) (h : skipS false (s.drop k) = R) : skipS false (s.drop (k + 1)) = R := by
  rw [List.drop_eq_getElem_cons hk, skipS_blk hb] at h; exact h
theorem skip_in {s R : Str} {k : Nat} (hk : k + 1 < s.length) (h1 : (s[k].toNat : Int) = 47) (h2 : (s[k + 1].toNat : Int) = 47) (h : skipS false (s.drop k) = R) : skipS true (s.drop k) = R := by
  have e1 : s[k] = 47 := UInt8.toNat_inj.1 (by show s[k].toNat = 47; omega)
  have e2 : s[k + 1] = 47 := UInt8.toNat_inj.1 (by show s[k + 1].toNat = 47; omega)
  rw [List.drop_eq_getElem_cons (show k < s.length by omega), List.drop_eq_getElem_cons hk, e1, e2] at h ⊢
  rw [← skipS_two]; exact h
theorem skip_com {s R : Str} {k : Nat} (hk : k < s.length) (hb : ¬ (s[k].toNat : Int) = 10) (h : skipS true (s.drop k) = R) : skipS true (s.drop (k + 1)) = R := by
  rw [List.drop_eq_getElem_cons hk, skipS_com (fun e => hb (by rw [e]; rfl))] at h; exact h
theorem skip_out1 {s R : Str} {k : Nat} (hk : s.length ≤ k) (h : skipS true (s.drop k) = R) : skipS false (s.drop k) = R := by
  rw [List.drop_of_length_le hk, skipS_nil] at h ⊢; exact h
theorem skip_out2 {s R : Str} {k : Nat} (hk : k < s.length) (hb : (s[k].toNat : Int) = 10) (h : skipS true (s.drop k) = R) : skipS false (s.drop k) = R := by
  have e1 : s[k] = 10 := UInt8.toNat_inj.1 (by show s[k].toNat = 10; omega)
  rw [List.drop_eq_getElem_cons hk, e1] at h ⊢
  rw [← skipS_end]; exact h
theorem stop_no {s : Str} {k : Nat} (hk : k < s.length) (hb : blkB s[k] = false) (h : ¬ (s[k].toNat : Int) = 47 ∨ ¬ k + 1 < s.length ∨ ∃ h : k + 1 < s.length, ¬ (s[k + 1].toNat : Int) = 47) : skipS false (s.drop k) = s.drop k := by
  rw [List.drop_eq_getElem_cons hk]
  refine skipS_stop hb ?_
  rintro ⟨e1, e2⟩
  rcases h with h | h | ⟨h0, h⟩
  · exact h (by rw [e1]; rfl)
  · rw [List.drop_of_length_le (by omega)] at e2; cases e2
  · rw [List.drop_eq_getElem_cons h0] at e2
    exact h (by rw [Option.some.inj e2]; rfl)
theorem stop_end {s : Str} {k : Nat} (hk : s.length ≤ k) : skipS false (s.drop k) = s.drop k := by rw [List.drop_of_length_le hk, skipS_nil]
theorem stop_val {s R : Str} {k : Nat} (hk : k ≤ s.length) (h : skipS false (s.drop k) = R) (h2 : skipS false (s.drop k) = s.drop k) : s.length - R.length = k := by
  rw [← h, h2, List.length_drop]; omega
set_option maxRecDepth 100000 in
theorem skip_any (s : Str) (hl : s.length ≤ 1000000) (o : Nat) (ho : o ≤ s.length) (w : World) :
    Calls Tryd.prog 84 #[strV s, .int .i64 (o : Nat)] w fun r w' => r = .returned (.int .i64 ((s.length - (skipS false (s.drop o)).length : Nat) : Int)) ∧ Ext w w' := by
  refine Sx.enter (H := (fun _ => none)) Tryd.func84 rfl Tryd.ntmps84 rfl (fun _ _ e => by cases e) ?_
  refine .sq <| .rg <| .a rfl rfl <| .nl <| .tN <| .sq <| .bk <| .lp (X := Nat) [(0, _)] ⟨rfl, trivial⟩ [] (fun k => [(1, .int .i64 (k : Nat))]) (fun k => (fun _ => none)) (fun k => []) (fun k => k ≤ s.length ∧ skipS false (s.drop k) = skipS false (s.drop o)) (fun k => s.length - k) o (fun _ s => s) ⟨rfl, trivial⟩ ⟨ho, rfl⟩ fun k hC => ?_
  obtain ⟨hk0, hC2⟩ := hC
  refine .sq <| .sq <| .rg <| .m rfl rfl <| .m rfl rfl <| .yv (.lenS Fx.str9 rfl) rfl <| .yv (.lss rfl rfl) rfl <| .nl <| .tN <| .cd rfl (fun h8 => ?_) (fun h8 => ?_)
  · try simp only [decide_eq_true_eq] at h8
    have hk : k < s.length := by omega
    refine .sk <| .tN <| .bk <| .sq <| .rg <| .m rfl rfl <| .m rfl rfl <| .yv (.idxS Fx.str9 rfl rfl rfl (b := s[k]) (j := k) (List.getElem?_eq_getElem hk)) rfl <| .yv (.eql rfl rfl) rfl <|
      .m rfl rfl <| .b2 (fun h13 => ?_) (fun h13 => ?_)
    · try simp only [decide_eq_true_eq] at h13
      exact .gF rfl rfl rfl rfl <| .gF rfl rfl rfl rfl <| .gF rfl rfl rfl rfl <| .gF rfl rfl rfl rfl <| .yv (.pickT rfl rfl) rfl <| .m rfl rfl <| .gF rfl rfl rfl rfl <|
        .gF rfl rfl rfl rfl <| .gF rfl rfl rfl rfl <| .gF rfl rfl rfl rfl <| .yv (.pickT rfl rfl) rfl <| .m rfl rfl <| .gF rfl rfl rfl rfl <| .gF rfl rfl rfl rfl <| .gF rfl rfl rfl rfl <|
        .gF rfl rfl rfl rfl <| .yv (.pickT rfl rfl) rfl <| .nl <| .tN <| .cT rfl <| .rg <| .m rfl rfl <| .yv (.add rfl rfl (w64 (by omega) (by omega))) rfl <| .a rfl rfl <|
        .nl <| .bN <| .tN <| .ag (k + 1) ⟨rfl, trivial⟩ ⟨rfl, trivial⟩ (fun _ s => s) ⟨by omega, skip_blk (by omega) (blk_of (by omega)) hC2⟩ (by first | omega | (have : j ≠ k := fun e => by subst e; omega); omega)
    · try simp only [decide_eq_false_iff_not] at h13
      refine .gd rfl rfl <| .yv (.move rfl) rfl <| .gd rfl rfl <| .yv (.move rfl) rfl <| .gd rfl rfl <| .yv (.idxS Fx.str9 rfl rfl rfl (b := s[k]) (j := k) (List.getElem?_eq_getElem hk)) rfl <|
        .gd rfl rfl <| .yv (.eql rfl rfl) rfl <| .yv (.pickF rfl rfl) rfl <| .m rfl rfl <| .b2 (fun h19 => ?_) (fun h19 => ?_)
      · try simp only [decide_eq_true_eq] at h19
        exact .gF rfl rfl rfl rfl <| .gF rfl rfl rfl rfl <| .gF rfl rfl rfl rfl <| .gF rfl rfl rfl rfl <| .yv (.pickT rfl rfl) rfl <| .m rfl rfl <| .gF rfl rfl rfl rfl <|
          .gF rfl rfl rfl rfl <| .gF rfl rfl rfl rfl <| .gF rfl rfl rfl rfl <| .yv (.pickT rfl rfl) rfl <| .nl <| .tN <| .cT rfl <| .rg <| .m rfl rfl <| .yv (.add rfl rfl (w64 (by omega) (by omega))) rfl <|
          .a rfl rfl <| .nl <| .bN <| .tN <| .ag (k + 1) ⟨rfl, trivial⟩ ⟨rfl, trivial⟩ (fun _ s => s) ⟨by omega, skip_blk (by omega) (blk_of (by omega)) hC2⟩ (by first | omega | (have : j ≠ k := fun e => by subst e; omega); omega)
      · try simp only [decide_eq_false_iff_not] at h19
        refine .gd rfl rfl <| .yv (.move rfl) rfl <| .gd rfl rfl <| .yv (.move rfl) rfl <| .gd rfl rfl <| .yv (.idxS Fx.str9 rfl rfl rfl (b := s[k]) (j := k) (List.getElem?_eq_getElem hk)) rfl <|
          .gd rfl rfl <| .yv (.eql rfl rfl) rfl <| .yv (.pickF rfl rfl) rfl <| .m rfl rfl <| .b2 (fun h25 => ?_) (fun h25 => ?_)
        · try simp only [decide_eq_true_eq] at h25
          exact .gF rfl rfl rfl rfl <| .gF rfl rfl rfl rfl <| .gF rfl rfl rfl rfl <| .gF rfl rfl rfl rfl <| .yv (.pickT rfl rfl) rfl <| .nl <| .tN <| .cT rfl <| .rg <| .m rfl rfl <|
            .yv (.add rfl rfl (w64 (by omega) (by omega))) rfl <| .a rfl rfl <| .nl <| .bN <| .tN <| .ag (k + 1) ⟨rfl, trivial⟩ ⟨rfl, trivial⟩ (fun _ s => s) ⟨by omega, skip_blk (by omega) (blk_of (by omega)) hC2⟩ (by first | omega | (have : j ≠ k := fun e => by subst e; omega); omega)
        · try simp only [decide_eq_false_iff_not] at h25
          refine .gd rfl rfl <| .yv (.move rfl) rfl <| .gd rfl rfl <| .yv (.move rfl) rfl <| .gd rfl rfl <| .yv (.idxS Fx.str9 rfl rfl rfl (b := s[k]) (j := k) (List.getElem?_eq_getElem hk)) rfl <|
            .gd rfl rfl <| .yv (.eql rfl rfl) rfl <| .yv (.pickF rfl rfl) rfl <| .nl <| .tN <| .cd rfl (fun h30 => ?_) (fun h30 => ?_)
          · try simp only [decide_eq_true_eq] at h30
            exact .rg <| .m rfl rfl <| .yv (.add rfl rfl (w64 (by omega) (by omega))) rfl <| .a rfl rfl <| .nl <| .bN <| .tN <| .ag (k + 1) ⟨rfl, trivial⟩ ⟨rfl, trivial⟩ (fun _ s => s) ⟨by omega, skip_blk (by omega) (blk_of (by omega)) hC2⟩ (by first | omega | (have : j ≠ k := fun e => by subst e; omega); omega)
          · try simp only [decide_eq_false_iff_not] at h30
            refine .sq <| .rg <| .m rfl rfl <| .yv (.add rfl rfl (w64 (by omega) (by omega))) rfl <| .m rfl rfl <| .yv (.lenS Fx.str9 rfl) rfl <| .yv (.lss rfl rfl) rfl <| .m rfl rfl <|
              .b2 (fun h38 => ?_) (fun h38 => ?_)
            · try simp only [decide_eq_true_eq] at h38
              have hk1 : k + 1 < s.length := by omega
              refine .gd rfl rfl <| .yv (.move rfl) rfl <| .gd rfl rfl <| .yv (.move rfl) rfl <| .gd rfl rfl <| .yv (.idxS Fx.str9 rfl rfl rfl (b := s[k]) (j := k) (List.getElem?_eq_getElem hk)) rfl <|
                .gd rfl rfl <| .yv (.eql rfl rfl) rfl <| .yv (.pickT rfl rfl) rfl <| .m rfl rfl <| .b2 (fun h44 => ?_) (fun h44 => ?_)
              · try simp only [decide_eq_true_eq] at h44
                refine .gd rfl rfl <| .yv (.move rfl) rfl <| .gd rfl rfl <| .yv (.move rfl) rfl <| .gd rfl rfl <| .yv (.add rfl rfl (w64 (by omega) (by omega))) rfl <| .gd rfl rfl <|
                  .yv (.idxS Fx.str9 rfl rfl (by omega) (b := s[(k + 1)]) (j := (k + 1)) (List.getElem?_eq_getElem hk1)) rfl <| .gd rfl rfl <| .yv (.eql rfl rfl) rfl <| .yv (.pickT rfl rfl) rfl <|
                  .nl <| .tN <| .cd rfl (fun h50 => ?_) (fun h50 => ?_)
                · try simp only [decide_eq_true_eq] at h50
                  refine .bk <| .lp (X := Nat) [(0, _)] ⟨rfl, trivial⟩ [] (fun j => [(1, .int .i64 (j : Nat))]) (fun j => (fun _ => none)) (fun j => []) (fun j => k ≤ j ∧ j ≤ s.length ∧ skipS true (s.drop j) = skipS false (s.drop o)) (fun j => s.length - j) k (fun _ s => s) ⟨rfl, trivial⟩ ⟨by omega, by omega, skip_in (by omega) (by omega) (by omega) hC2⟩ fun j hC => ?_
                  obtain ⟨hj0, hj1, hC3⟩ := hC
                  refine .sq <| .sq <| .rg <| .m rfl rfl <| .m rfl rfl <| .yv (.lenS Fx.str9 rfl) rfl <| .yv (.lss rfl rfl) rfl <| .m rfl rfl <| .b2 (fun h55 => ?_) (fun h55 => ?_)
                  · try simp only [decide_eq_true_eq] at h55
                    have hj : j < s.length := by omega
                    refine .gd rfl rfl <| .yv (.move rfl) rfl <| .gd rfl rfl <| .yv (.move rfl) rfl <| .gd rfl rfl <| .yv (.idxS Fx.str9 rfl rfl rfl (b := s[j]) (j := j) (List.getElem?_eq_getElem hj)) rfl <|
                      .gd rfl rfl <| .yv (.neq rfl rfl) rfl <| .yv (.pickT rfl rfl) rfl <| .nl <| .tN <| .cd rfl (fun h60 => ?_) (fun h60 => ?_)
                    · try simp only [decide_eq_true_eq] at h60
                      exact .sk <| .tN <| .bk <| .rg <| .m rfl rfl <| .yv (.add rfl rfl (w64 (by omega) (by omega))) rfl <| .a rfl rfl <| .nl <| .bN <| .tN <| .ag (j + 1) ⟨rfl, trivial⟩ ⟨rfl, trivial⟩ (fun _ s => s) ⟨by omega, by omega, skip_com (by omega) (by omega) hC3⟩ (by omega)
                    · try simp only [decide_eq_false_iff_not] at h60
                      exact .ex <| .tE <| .tE <| .bE <| .bN <| .tN <| .ag j ⟨rfl, trivial⟩ ⟨rfl, trivial⟩ (fun _ s => s) ⟨by omega, by first | exact skip_out1 (by omega) hC3 | exact skip_out2 (show j < s.length by omega) (by omega) hC3⟩ (by first | omega | (have : j ≠ k := fun e => by subst e; omega); omega)
                  · try simp only [decide_eq_false_iff_not] at h55
                    exact .gF rfl rfl rfl rfl <| .gF rfl rfl rfl rfl <| .gF rfl rfl rfl rfl <| .gF rfl rfl rfl rfl <| .yv (.pickF rfl rfl) rfl <| .nl <| .tN <| .cF rfl <| .ex <| .tE <|
                      .tE <| .bE <| .bN <| .tN <| .ag j ⟨rfl, trivial⟩ ⟨rfl, trivial⟩ (fun _ s => s) ⟨by omega, by first | exact skip_out1 (by omega) hC3 | exact skip_out2 (show j < s.length by omega) (by omega) hC3⟩ (by first | omega | (have : j ≠ k := fun e => by subst e; omega); omega)
                · try simp only [decide_eq_false_iff_not] at h50
                  refine .sq <| .rg <| .m rfl rfl <| .a rfl rfl <| .nl <| .tN <| .rt <| .bR <| .tR <| .bR <| .tR <| ?_
                  refine Sx.ret1 (.inl rfl) rfl (.tmp rfl) fun W s => ⟨?_, s.ext⟩
                  first
                    | (rw [stop_val hk0 hC2 (stop_no hk (nblk_of (by omega)) (.inl (by omega)))])
                    | (rw [stop_val hk0 hC2 (stop_no hk (nblk_of (by omega)) (.inr (.inl (by omega))))])
                    | (rw [stop_val hk0 hC2 (stop_no hk (nblk_of (by omega)) (.inr (.inr ⟨hk1, by omega⟩)))])
                    | (rw [stop_val hk0 hC2 (stop_end (by omega))])
              · try simp only [decide_eq_false_iff_not] at h44
                refine .gF rfl rfl rfl rfl <| .gF rfl rfl rfl rfl <| .gF rfl rfl rfl rfl <| .gF rfl rfl rfl rfl <| .gF rfl rfl rfl rfl <| .yv (.pickF rfl rfl) rfl <| .nl <| .tN <|
                  .cF rfl <| .sq <| .rg <| .m rfl rfl <| .a rfl rfl <| .nl <| .tN <| .rt <| .bR <| .tR <| .bR <| .tR <| ?_
                refine Sx.ret1 (.inl rfl) rfl (.tmp rfl) fun W s => ⟨?_, s.ext⟩
                first
                  | (rw [stop_val hk0 hC2 (stop_no hk (nblk_of (by omega)) (.inl (by omega)))])
                  | (rw [stop_val hk0 hC2 (stop_no hk (nblk_of (by omega)) (.inr (.inl (by omega))))])
                  | (rw [stop_val hk0 hC2 (stop_no hk (nblk_of (by omega)) (.inr (.inr ⟨hk1, by omega⟩)))])
                  | (rw [stop_val hk0 hC2 (stop_end (by omega))])
            · try simp only [decide_eq_false_iff_not] at h38
              refine .gF rfl rfl rfl rfl <| .gF rfl rfl rfl rfl <| .gF rfl rfl rfl rfl <| .gF rfl rfl rfl rfl <| .yv (.pickF rfl rfl) rfl <| .m rfl rfl <| .gF rfl rfl rfl rfl <|
                .gF rfl rfl rfl rfl <| .gF rfl rfl rfl rfl <| .gF rfl rfl rfl rfl <| .gF rfl rfl rfl rfl <| .yv (.pickF rfl rfl) rfl <| .nl <| .tN <| .cF rfl <| .sq <| .rg <|
                .m rfl rfl <| .a rfl rfl <| .nl <| .tN <| .rt <| .bR <| .tR <| .bR <| .tR <| ?_
              refine Sx.ret1 (.inl rfl) rfl (.tmp rfl) fun W s => ⟨?_, s.ext⟩
              first
                | (rw [stop_val hk0 hC2 (stop_no hk (nblk_of (by omega)) (.inl (by omega)))])
                | (rw [stop_val hk0 hC2 (stop_no hk (nblk_of (by omega)) (.inr (.inl (by omega))))])
                | (rw [stop_val hk0 hC2 (stop_no hk (nblk_of (by omega)) (.inr (.inr ⟨hk1, by omega⟩)))])
                | (rw [stop_val hk0 hC2 (stop_end (by omega))])
  · try simp only [decide_eq_false_iff_not] at h8
    obtain rfl : k = s.length := by omega
    refine .ex <| .tE <| .tE <| .bE <| .tN <| .sq <| .rg <| .m rfl rfl <| .a rfl rfl <| .nl <| .tN <| .rt <| ?_
    refine Sx.ret1 (.inl rfl) rfl (.tmp rfl) fun W s => ⟨?_, s.ext⟩
    first
      | (rw [stop_val hk0 hC2 (stop_no hk (nblk_of (by omega)) (.inl (by omega)))])
      | (rw [stop_val hk0 hC2 (stop_no hk (nblk_of (by omega)) (.inr (.inl (by omega))))])
      | (rw [stop_val hk0 hC2 (stop_no hk (nblk_of (by omega)) (.inr (.inr ⟨hk1, by omega⟩)))])
      | (rw [stop_val hk0 hC2 (stop_end (by omega))])
set_option maxRecDepth 100000 in
theorem keywordsR_any (H : Hp) (w : World) (hA : Agr H w) : Calls Tryd.prog 103 #[] w fun r w' => ∃ (b : Nat) (H' : Hp), MemAt H' b 0 (words.map strV) ∧ r = .returned (.slice (some ⟨b, 0, none⟩) 39 39) ∧ Grow H w H' w' := by
  refine Sx.enter (H := H) Tryd.func103 rfl Tryd.ntmps103 rfl hA ?_
  refine .sq <| .rg <| .a rfl rfl <| .nl <| .tN <| .sq <| .rg <| .bl rfl (Fx.bsl56_39 _ _ _ _ _ _ _ _ _ _ _ _ _ _ _ _ _ _ _ _ _ _ _ _ _ _ _ _ _ _ _ _ _ _ _ _ _ _ _) rfl fun b1 => ?_
  refine Sx.freezeBox fun H1 u1 m1 => ?_
  refine .a rfl rfl <| .nl <| .tN <| .rt <| ?_
  exact Sx.ret1 (.inl rfl) rfl (.tmp rfl) fun W s => ⟨b1, H1, m1, rfl, u1.grow s⟩
set_option maxRecDepth 100000 in
theorem symbolsR_any (H : Hp) (w : World) (hA : Agr H w) : Calls Tryd.prog 104 #[] w fun r w' => ∃ (b : Nat) (H' : Hp), MemAt H' b 0 (symbols.map strV) ∧ r = .returned (.slice (some ⟨b, 0, none⟩) 25 25) ∧ Grow H w H' w' := by
  refine Sx.enter (H := H) Tryd.func104 rfl Tryd.ntmps104 rfl hA ?_
  refine .sq <| .rg <| .a rfl rfl <| .nl <| .tN <| .sq <| .rg <| .bl rfl (Fx.bsl56_25 _ _ _ _ _ _ _ _ _ _ _ _ _ _ _ _ _ _ _ _ _ _ _ _ _) rfl fun b1 => ?_
  refine Sx.freezeBox fun H1 u1 m1 => ?_
  refine .a rfl rfl <| .nl <| .tN <| .rt <| ?_
  exact Sx.ret1 (.inl rfl) rfl (.tmp rfl) fun W s => ⟨b1, H1, m1, rfl, u1.grow s⟩
end Go.Proofs.YtmbiojpcidccjaaDoor
/- Facts on types and functions. -/
namespace Go.Proofs.YtmbiojpcidccjaaDoor
open Go.RowKit Go.Par Go.Sx
theorem Fx.agg167 : aggN Tryd.prog 167 = Option.some (Option.some 3) := by kernel_rfl
theorem Fx.call101 : callN Tryd.prog 101 = Bool.true := by kernel_rfl
theorem Fx.call102 : callN Tryd.prog 102 = Bool.true := by kernel_rfl
theorem Fx.call103 : callN Tryd.prog 103 = Bool.true := by kernel_rfl
theorem Fx.call104 : callN Tryd.prog 104 = Bool.true := by kernel_rfl
theorem Fx.size167 : sizeN Tryd.prog 167 = Option.some 3 := by kernel_rfl
theorem Fx.zero167 : zeroN Tryd.prog 167 = Option.some
  [Go.Value.int Go.IntKind.i64 (Int.ofNat 0), Go.Value.string { data := { toList := [] } },
    Go.Value.int Go.IntKind.i64 (Int.ofNat 0)] := by kernel_rfl
theorem Fx.bld167_0_1_2 (x0 : Int) (x1 : ByteArray) (x2 : Int) : buildN Tryd.prog 167 [(0, .int .i64 x0), (1, .string x1), (2, .int .i64 x2)] = some [.int .i64 x0, .string x1, .int .i64 x2] := by kernel_rfl
end Go.Proofs.YtmbiojpcidccjaaDoor
/- Contracts: next. -/
namespace Go.Proofs.YtmbiojpcidccjaaDoor
open Go.RowKit Go.Par Go.Sx
theorem ins_of {c : UInt8} (h : letB c = true ∨ digB c = true ∨ (c.toNat : Int) = 95) : insB c = true := by
  simp only [insB, Bool.or_eq_true, decide_eq_true_eq]
  rcases h with h | h | h
  · exact .inl (.inl h)
  · exact .inl (.inr h)
  · exact .inr (by omega)
theorem nins_of {c : UInt8} (h1 : letB c = false) (h2 : digB c = false) (h3 : ¬ (c.toNat : Int) = 95) : insB c = false := by
  simp only [insB, Bool.or_eq_false_iff, decide_eq_false_iff_not]
  exact ⟨⟨h1, h2⟩, by omega⟩
theorem pre_end {q : UInt8 → Bool} {l : Str} {k : Nat} (h : k ≤ pre q l) (hk : ¬ k < l.length) : k = pre q l := by
  have := pre_le q l; omega
theorem mid_take (s : Str) (o n : Nat) : (s.take (o + n)).drop o = (s.drop o).take n := by
  rw [List.drop_take, Nat.add_sub_cancel_left]
theorem sym_take {l x : Str} (h : symbols.find? (fun x => x.isPrefixOf l) = some x) : l.take x.length = x := by
  have h1 := List.find?_some (p := fun (x : Str) => x.isPrefixOf l) h
  obtain ⟨t, ht⟩ := List.isPrefixOf_iff_prefix.1 h1
  rw [← ht, List.take_left]
theorem word_in {l : Str} {k : Nat} (hk : k < 39) (h : words.getD k [] = l) : words.contains l = true := by
  rw [List.contains_iff_mem, ← h, getD_at (show k < words.length from hk)]
  exact List.getElem_mem _
theorem word_no {l : Str} (h : ∀ j, j < 39 → words.getD j [] ≠ l) : words.contains l = false := by
  rw [Bool.eq_false_iff, Ne, List.contains_iff_mem]
  intro hm
  obtain ⟨j, hj, e⟩ := List.mem_iff_getElem.1 hm
  exact h j hj (by rw [getD_at hj]; exact e)
set_option maxRecDepth 100000 in
theorem next_any (H : Hp) (s : Str) (hl : s.length ≤ 1000000) (o : Nat) (ho : o < s.length) (w : World) (hA : Agr H w) :
    Calls Tryd.prog 85 #[strV s, .int .i64 (o : Nat)] w fun r w' => r = .returned (.agg [.int .i64 ((readK (s.drop o)).1.toNat : Nat), strV ((s.drop o).take (readK (s.drop o)).2), .int .i64 (o : Nat)].toArray) ∧ Ext w w' := by
  obtain ⟨l, hm⟩ : ∃ l, l = s.drop o := ⟨_, rfl⟩
  rw [← hm]
  have hlen : o + l.length = s.length := by rw [hm, List.length_drop]; omega
  have hget : ∀ k (h : k < l.length), s[o + k]? = some l[k] := fun k h => by rw [← List.getElem?_drop, ← hm, List.getElem?_eq_getElem h]
  cases l with
  | nil => simp only [List.length_nil] at hlen; omega
  | cons c m =>
  have hlen2 : (c :: m).length = m.length + 1 := rfl
  refine Sx.enter (H := H) Tryd.func85 rfl Tryd.ntmps85 rfl hA ?_
  refine .sq <| .rg <| .al Fx.zero167 rfl fun b4 => .nl <| .tN <| .sq <| .rg <| .m rfl rfl <| .a rfl rfl <| .nl <| .tN <| .sq <| .sq <| .rg <| .m rfl rfl <| .m rfl rfl <|
    .yv (.idxS Fx.str9 rfl rfl rfl (b := c) (j := o) (by rw [← Nat.add_zero o]; exact hget 0 (by simp))) rfl <| .yv (.call Fx.call101 rfl (fun W s => rletter_any _ W)) rfl <|
    .nl <| .tN <| .cd rfl (fun h15 => ?_) (fun h15 => ?_)
  · skip
    refine .cu (X := Unit) [(0, _), (1, _), (4, _)] ⟨rfl, rfl, rfl, trivial⟩ (fun z => [(5, .int .i64 ((o + pre insB (c :: m) : Nat) : Int))]) (fun z => H) (fun z => [.box b4 [.int .i64 0, .string ⟨#[]⟩, .int .i64 0] 167]) (fun z => True) ?_ fun z hC => ?_
    ·
      refine .bk <| .lp (X := Nat) [(0, _), (1, _), (4, _)] ⟨rfl, rfl, rfl, trivial⟩ [_] (fun k => [(5, .int .i64 ((o + k : Nat) : Int))]) (fun k => H) (fun k => []) (fun k => k ≤ pre insB (c :: m)) (fun k => pre insB (c :: m) - k) 0 (fun _ s => s) ⟨rfl, trivial⟩ (by omega) fun k hC => ?_
      refine .sq <| .sq <| .rg <| .m rfl rfl <| .m rfl rfl <| .yv (.lenS Fx.str9 rfl) rfl <| .yv (.lss rfl rfl) rfl <| .m rfl rfl <| .b2 (fun h20 => ?_) (fun h20 => ?_)
      · try simp only [decide_eq_true_eq] at h20
        have hk : k < (c :: m).length := by omega
        refine .gd rfl rfl <| .yv (.move rfl) rfl <| .gd rfl rfl <| .yv (.move rfl) rfl <| .gd rfl rfl <| .yv (.idxS Fx.str9 rfl rfl rfl (b := (c :: m)[k]) (j := o + k) (hget k hk)) rfl <|
          .gd rfl rfl <| .yv (.call Fx.call101 rfl (fun W s => rletter_any _ W)) rfl <| .gd rfl rfl <| .yv (.move rfl) rfl <| .b2 (fun h25 => ?_) (fun h25 => ?_)
        · skip
          exact .gF rfl rfl rfl rfl <| .gF rfl rfl rfl rfl <| .gF rfl rfl rfl rfl <| .gF rfl rfl rfl rfl <| .gd rfl rfl <| .yv (.pickT rfl rfl) rfl <| .gd rfl rfl <| .yv (.move rfl) rfl <|
            .gF rfl rfl rfl rfl <| .gF rfl rfl rfl rfl <| .gF rfl rfl rfl rfl <| .gF rfl rfl rfl rfl <| .gd rfl rfl <| .yv (.pickT rfl rfl) rfl <| .yv (.pickT rfl rfl) rfl <|
            .nl <| .tN <| .cT rfl <| .sk <| .tN <| .bk <| .rg <| .m rfl rfl <| .yv (.add rfl rfl (c := ((o + (k + 1) : Nat) : Int)) ((w64 (by omega) (by omega)).trans (by omega))) rfl <|
            .a rfl rfl <| .nl <| .bN <| .tN <| .ag (k + 1) ⟨rfl, trivial⟩ ⟨rfl, rfl, rfl, trivial⟩ (fun _ s => s) (pre_step hk hC (ins_of (by first | exact .inl (by assumption) | exact .inr (.inl (by assumption)) | exact .inr (.inr (by omega))))) (by have := pre_step hk hC (ins_of (by first | exact .inl (by assumption) | exact .inr (.inl (by assumption)) | exact .inr (.inr (by omega)))); omega)
        · skip
          refine .gd rfl rfl <| .yv (.move rfl) rfl <| .gd rfl rfl <| .yv (.move rfl) rfl <| .gd rfl rfl <| .yv (.idxS Fx.str9 rfl rfl rfl (b := (c :: m)[k]) (j := o + k) (hget k hk)) rfl <|
            .gd rfl rfl <| .yv (.call Fx.call102 rfl (fun W s => rdigit_any _ W)) rfl <| .gd rfl rfl <| .yv (.pickF rfl rfl) rfl <| .gd rfl rfl <| .yv (.move rfl) rfl <| .b2 (fun h31 => ?_) (fun h31 => ?_)
          · skip
            exact .gF rfl rfl rfl rfl <| .gF rfl rfl rfl rfl <| .gF rfl rfl rfl rfl <| .gF rfl rfl rfl rfl <| .gd rfl rfl <| .yv (.pickT rfl rfl) rfl <| .yv (.pickT rfl rfl) rfl <|
              .nl <| .tN <| .cT rfl <| .sk <| .tN <| .bk <| .rg <| .m rfl rfl <| .yv (.add rfl rfl (c := ((o + (k + 1) : Nat) : Int)) ((w64 (by omega) (by omega)).trans (by omega))) rfl <|
              .a rfl rfl <| .nl <| .bN <| .tN <| .ag (k + 1) ⟨rfl, trivial⟩ ⟨rfl, rfl, rfl, trivial⟩ (fun _ s => s) (pre_step hk hC (ins_of (by first | exact .inl (by assumption) | exact .inr (.inl (by assumption)) | exact .inr (.inr (by omega))))) (by have := pre_step hk hC (ins_of (by first | exact .inl (by assumption) | exact .inr (.inl (by assumption)) | exact .inr (.inr (by omega)))); omega)
          · skip
            refine .gd rfl rfl <| .yv (.move rfl) rfl <| .gd rfl rfl <| .yv (.move rfl) rfl <| .gd rfl rfl <| .yv (.idxS Fx.str9 rfl rfl rfl (b := (c :: m)[k]) (j := o + k) (hget k hk)) rfl <|
              .gd rfl rfl <| .yv (.eql rfl rfl) rfl <| .gd rfl rfl <| .yv (.pickF rfl rfl) rfl <| .yv (.pickT rfl rfl) rfl <| .nl <| .tN <| .cd rfl (fun h37 => ?_) (fun h37 => ?_)
            · try simp only [decide_eq_true_eq] at h37
              exact .sk <| .tN <| .bk <| .rg <| .m rfl rfl <| .yv (.add rfl rfl (c := ((o + (k + 1) : Nat) : Int)) ((w64 (by omega) (by omega)).trans (by omega))) rfl <| .a rfl rfl <|
                .nl <| .bN <| .tN <| .ag (k + 1) ⟨rfl, trivial⟩ ⟨rfl, rfl, rfl, trivial⟩ (fun _ s => s) (pre_step hk hC (ins_of (by first | exact .inl (by assumption) | exact .inr (.inl (by assumption)) | exact .inr (.inr (by omega))))) (by have := pre_step hk hC (ins_of (by first | exact .inl (by assumption) | exact .inr (.inl (by assumption)) | exact .inr (.inr (by omega)))); omega)
            · try simp only [decide_eq_false_iff_not] at h37
              exact .ex <| .tE <| .tE <| .bE <| .tN <| .me () ⟨(by first | (rw [← pre_end hC (by omega)]; rfl) | (rw [← pre_stop hk hC (by first | exact nins_of (by assumption) (by assumption) (by omega) | assumption)]; rfl)), trivial⟩ ⟨rfl, rfl, rfl, trivial⟩ (fun _ s => s) trivial
      · try simp only [decide_eq_false_iff_not] at h20
        skip
        exact .gF rfl rfl rfl rfl <| .gF rfl rfl rfl rfl <| .gF rfl rfl rfl rfl <| .gF rfl rfl rfl rfl <| .gF rfl rfl rfl rfl <| .gU rfl rfl rfl <| .gU rfl rfl rfl <| .gU rfl rfl rfl <|
          .gU rfl rfl rfl <| .gF rfl rfl rfl rfl <| .gF rfl rfl rfl rfl <| .gU rfl rfl rfl <| .gU rfl rfl rfl <| .gU rfl rfl rfl <| .gU rfl rfl rfl <| .gF rfl rfl rfl rfl <|
          .yv (.pickF rfl rfl) rfl <| .nl <| .tN <| .cF rfl <| .ex <| .tE <| .tE <| .bE <| .tN <| .me () ⟨(by first | (rw [← pre_end hC (by omega)]; rfl) | (rw [← pre_stop hk hC (by first | exact nins_of (by assumption) (by assumption) (by omega) | assumption)]; rfl)), trivial⟩ ⟨rfl, rfl, rfl, trivial⟩ (fun _ s => s) trivial
    ·
      refine .sq <| .rg <| .m rfl rfl <| .m rfl rfl <| .m rfl rfl <| .yv (.cast (.midS Fx.str9 rfl rfl rfl rfl rfl (by omega) (by have := pre_le insB (c :: m); omega)) (by rw [mid_take, ← hm])) rfl <|
        .a rfl rfl <| .nl <| .tN <| .sq <| .sq <| .rg <| .ct (X := Nat) Fx.call103 rfl (fun W s => keywordsR_any H W s.agr) rfl fun b44 H1 m1 u1 => .yv (.lenSl Fx.sl56 rfl) rfl <|
        .m rfl rfl <| .nl <| .tN <| .bk <| .lp (X := Nat) [(0, _), (1, _), (4, _), (5, _), (6, _), (44, _), (45, _)] ⟨rfl, rfl, rfl, rfl, rfl, rfl, rfl, trivial⟩ [_] (fun k => [(46, .int .i64 (k : Nat))]) (fun k => H1) (fun k => []) (fun k => k ≤ 39 ∧ ∀ j, j < k → words.getD j [] ≠ ((c :: m).take (pre insB (c :: m)))) (fun k => 39 - k) 0 (fun _ s => s) ⟨rfl, trivial⟩ ⟨by omega, fun j hj => by omega⟩ fun k hC => ?_
      obtain ⟨hk0, hne⟩ := hC
      refine .sq <| .rg <| .yv (.lss rfl rfl) rfl <| .nl <| .tN <| .sq <| .cd rfl (fun h47 => ?_) (fun h47 => ?_)
      · try simp only [decide_eq_true_eq] at h47
        refine .sk <| .tN <| .sq <| .bk <| .sq <| .rg <| .yv (.indexSl Fx.sl56 rfl rfl rfl (by omega) (q := k) (by omega)) rfl <| .yv (.loadM rfl Fx.agg9 m1 (k := k) (by omega) (list_at (by show k < 39; omega) [])) rfl <|
          .a rfl rfl <| .nl <| .tN <| .sq <| .rg <| .m rfl rfl <| .m rfl rfl <| .yv (.eqS rfl rfl) rfl <| .nl <| .tN <| .cd rfl (fun h52 => ?_) (fun h52 => ?_)
        · try simp only [decide_eq_true_eq] at h52
          have hw := word_in (by omega) h52
          refine .sq <| .rg <| .m rfl rfl <| .m rfl rfl <| .yv (.build rfl (Fx.bld167_0_1_2 _ _ _)) rfl <| .sW .head rfl rfl Fx.size167 (by simp [Value.oneCell', strV]) rfl <|
            .nl <| .tN <| .rt <| .bR <| .tR <| .tR <| .bR <| .tR <| .tR <| ?_
          refine Sx.ret1 (.inl rfl) rfl (.cell rfl Fx.agg167 (.head _) rfl) fun W s => ⟨?_, (u1.grow s).ext⟩
          first
            | (simp only [readK, List.headD_cons, h15, hw, if_true, if_false, Bool.false_eq_true]; rfl)
            | (simp only [readK, List.headD_cons, h15, hw, if_true, if_false, Bool.false_eq_true, List.take_length]; rfl)
            | (simp only [readK, List.headD_cons, h15, hw, hw9, if_true, if_false, Bool.false_eq_true]; rfl)
            | (simp only [readK, List.headD_cons, h15, hw, hw9, if_true, if_false, Bool.false_eq_true, List.take_length]; rfl)
            | (simp only [readK, List.headD_cons, h15, h71, hor, if_true, if_false, Bool.false_eq_true]; rfl)
            | (simp only [readK, List.headD_cons, h15, h71, hor, if_true, if_false, Bool.false_eq_true, List.take_length]; rfl)
            | (simp only [readK, List.headD_cons, h15, h71, hfind, if_true, if_false, Bool.false_eq_true]; rfl)
            | (simp only [readK, List.headD_cons, h15, h71, hfind, if_true, if_false, Bool.false_eq_true, List.take_length]; rfl)
            | (simp only [readK, List.headD_cons, h15, h71, hfind, if_true, if_false, Bool.false_eq_true, sym_take hfind]; rfl)
            | (simp only [readK, List.headD_cons, h15, h71, hfind, if_true, if_false, Bool.false_eq_true, List.take_length]; rfl)
        · try simp only [decide_eq_false_iff_not] at h52
          exact .sk <| .bN <| .tN <| .rg <| .yv (.add rfl rfl (w64 (by omega) (by omega))) rfl <| .m rfl rfl <| .nl <| .tN <| .ag (k + 1) ⟨rfl, trivial⟩ ⟨rfl, rfl, rfl, rfl, rfl, rfl, rfl, trivial⟩ (fun _ s => s) ⟨by omega, fun j hj => by
    by_cases e : j = k
    · subst e; exact h52
    · exact hne j (by omega)⟩ (by omega)
      · try simp only [decide_eq_false_iff_not] at h47
        have hw := word_no (fun j hj => hne j (by omega))
        refine .ex <| .tE <| .tE <| .bE <| .tN <| .sq <| .sq <| .rg <| .m rfl rfl <| .yv (.lenS Fx.str9 rfl) rfl <| .yv (.leq rfl rfl) rfl <| .nl <| .tN <| .cd rfl (fun h59 => ?_) (fun h59 => ?_)
        · try simp only [decide_eq_true_eq] at h59
          have hw9 : pre insB (c :: m) ≤ 12 := by have := pre_le insB (c :: m); rw [List.length_take] at h59; omega
          refine .sq <| .rg <| .m rfl rfl <| .m rfl rfl <| .yv (.build rfl (Fx.bld167_0_1_2 _ _ _)) rfl <| .sW .head rfl rfl Fx.size167 (by simp [Value.oneCell', strV]) rfl <|
            .nl <| .tN <| .rt <| .tR <| .tR <| ?_
          refine Sx.ret1 (.inl rfl) rfl (.cell rfl Fx.agg167 (.head _) rfl) fun W s => ⟨?_, (u1.grow s).ext⟩
          first
            | (simp only [readK, List.headD_cons, h15, hw, if_true, if_false, Bool.false_eq_true]; rfl)
            | (simp only [readK, List.headD_cons, h15, hw, if_true, if_false, Bool.false_eq_true, List.take_length]; rfl)
            | (simp only [readK, List.headD_cons, h15, hw, hw9, if_true, if_false, Bool.false_eq_true]; rfl)
            | (simp only [readK, List.headD_cons, h15, hw, hw9, if_true, if_false, Bool.false_eq_true, List.take_length]; rfl)
            | (simp only [readK, List.headD_cons, h15, h71, hor, if_true, if_false, Bool.false_eq_true]; rfl)
            | (simp only [readK, List.headD_cons, h15, h71, hor, if_true, if_false, Bool.false_eq_true, List.take_length]; rfl)
            | (simp only [readK, List.headD_cons, h15, h71, hfind, if_true, if_false, Bool.false_eq_true]; rfl)
            | (simp only [readK, List.headD_cons, h15, h71, hfind, if_true, if_false, Bool.false_eq_true, List.take_length]; rfl)
            | (simp only [readK, List.headD_cons, h15, h71, hfind, if_true, if_false, Bool.false_eq_true, sym_take hfind]; rfl)
            | (simp only [readK, List.headD_cons, h15, h71, hfind, if_true, if_false, Bool.false_eq_true, List.take_length]; rfl)
        · try simp only [decide_eq_false_iff_not] at h59
          have hw9 : ¬ pre insB (c :: m) ≤ 12 := by have := pre_le insB (c :: m); rw [List.length_take] at h59; omega
          refine .sk <| .tN <| .sq <| .rg <| .m rfl rfl <| .m rfl rfl <| .yv (.cast (.dropS Fx.str9 rfl rfl rfl (by omega)) (by rw [← hm])) rfl <| .m rfl rfl <| .yv (.build rfl (Fx.bld167_0_1_2 _ _ _)) rfl <|
            .sW .head rfl rfl Fx.size167 (by simp [Value.oneCell', strV]) rfl <| .nl <| .tN <| .rt <| .tR <| ?_
          refine Sx.ret1 (.inl rfl) rfl (.cell rfl Fx.agg167 (.head _) rfl) fun W s => ⟨?_, (u1.grow s).ext⟩
          first
            | (simp only [readK, List.headD_cons, h15, hw, if_true, if_false, Bool.false_eq_true]; rfl)
            | (simp only [readK, List.headD_cons, h15, hw, if_true, if_false, Bool.false_eq_true, List.take_length]; rfl)
            | (simp only [readK, List.headD_cons, h15, hw, hw9, if_true, if_false, Bool.false_eq_true]; rfl)
            | (simp only [readK, List.headD_cons, h15, hw, hw9, if_true, if_false, Bool.false_eq_true, List.take_length]; rfl)
            | (simp only [readK, List.headD_cons, h15, h71, hor, if_true, if_false, Bool.false_eq_true]; rfl)
            | (simp only [readK, List.headD_cons, h15, h71, hor, if_true, if_false, Bool.false_eq_true, List.take_length]; rfl)
            | (simp only [readK, List.headD_cons, h15, h71, hfind, if_true, if_false, Bool.false_eq_true]; rfl)
            | (simp only [readK, List.headD_cons, h15, h71, hfind, if_true, if_false, Bool.false_eq_true, List.take_length]; rfl)
            | (simp only [readK, List.headD_cons, h15, h71, hfind, if_true, if_false, Bool.false_eq_true, sym_take hfind]; rfl)
            | (simp only [readK, List.headD_cons, h15, h71, hfind, if_true, if_false, Bool.false_eq_true, List.take_length]; rfl)
  · skip
    refine .sk <| .tN <| .sq <| .sq <| .rg <| .m rfl rfl <| .m rfl rfl <| .yv (.idxS Fx.str9 rfl rfl rfl (b := c) (j := o) (by rw [← Nat.add_zero o]; exact hget 0 (by simp))) rfl <|
      .yv (.call Fx.call102 rfl (fun W s => rdigit_any _ W)) rfl <| .nl <| .tN <| .cd rfl (fun h71 => ?_) (fun h71 => ?_)
    · skip
      refine .cu (X := Unit) [(0, _), (1, _), (4, _)] ⟨rfl, rfl, rfl, trivial⟩ (fun z => [(5, .int .i64 ((o + pre digB (c :: m) : Nat) : Int))]) (fun z => H) (fun z => [.box b4 [.int .i64 0, .string ⟨#[]⟩, .int .i64 0] 167]) (fun z => True) ?_ fun z hC => ?_
      ·
        refine .bk <| .lp (X := Nat) [(0, _), (1, _), (4, _)] ⟨rfl, rfl, rfl, trivial⟩ [_] (fun k => [(5, .int .i64 ((o + k : Nat) : Int))]) (fun k => H) (fun k => []) (fun k => k ≤ pre digB (c :: m)) (fun k => pre digB (c :: m) - k) 0 (fun _ s => s) ⟨rfl, trivial⟩ (by omega) fun k hC => ?_
        refine .sq <| .sq <| .rg <| .m rfl rfl <| .m rfl rfl <| .yv (.lenS Fx.str9 rfl) rfl <| .yv (.lss rfl rfl) rfl <| .m rfl rfl <| .b2 (fun h76 => ?_) (fun h76 => ?_)
        · try simp only [decide_eq_true_eq] at h76
          have hk : k < (c :: m).length := by omega
          refine .gd rfl rfl <| .yv (.move rfl) rfl <| .gd rfl rfl <| .yv (.move rfl) rfl <| .gd rfl rfl <| .yv (.idxS Fx.str9 rfl rfl rfl (b := (c :: m)[k]) (j := o + k) (hget k hk)) rfl <|
            .gd rfl rfl <| .yv (.call Fx.call102 rfl (fun W s => rdigit_any _ W)) rfl <| .yv (.pickT rfl rfl) rfl <| .nl <| .tN <| .cd rfl (fun h81 => ?_) (fun h81 => ?_)
          · skip
            exact .sk <| .tN <| .bk <| .rg <| .m rfl rfl <| .yv (.add rfl rfl (c := ((o + (k + 1) : Nat) : Int)) ((w64 (by omega) (by omega)).trans (by omega))) rfl <| .a rfl rfl <|
              .nl <| .bN <| .tN <| .ag (k + 1) ⟨rfl, trivial⟩ ⟨rfl, rfl, rfl, trivial⟩ (fun _ s => s) (pre_step hk hC (by assumption)) (by have := pre_step hk hC (by assumption); omega)
          · skip
            exact .ex <| .tE <| .tE <| .bE <| .tN <| .me () ⟨(by first | (rw [← pre_end hC (by omega)]; rfl) | (rw [← pre_stop hk hC (by first | exact nins_of (by assumption) (by assumption) (by omega) | assumption)]; rfl)), trivial⟩ ⟨rfl, rfl, rfl, trivial⟩ (fun _ s => s) trivial
        · try simp only [decide_eq_false_iff_not] at h76
          skip
          exact .gF rfl rfl rfl rfl <| .gF rfl rfl rfl rfl <| .gF rfl rfl rfl rfl <| .gF rfl rfl rfl rfl <| .yv (.pickF rfl rfl) rfl <| .nl <| .tN <| .cF rfl <| .ex <| .tE <|
            .tE <| .bE <| .tN <| .me () ⟨(by first | (rw [← pre_end hC (by omega)]; rfl) | (rw [← pre_stop hk hC (by first | exact nins_of (by assumption) (by assumption) (by omega) | assumption)]; rfl)), trivial⟩ ⟨rfl, rfl, rfl, trivial⟩ (fun _ s => s) trivial
      ·
        refine .sq <| .sq <| .rg <| .m rfl rfl <| .m rfl rfl <| .yv (.idxS Fx.str9 rfl rfl rfl (b := c) (j := o) (by rw [← Nat.add_zero o]; exact hget 0 (by simp))) rfl <|
          .yv (.eql rfl rfl) rfl <| .m rfl rfl <| .b2 (fun h88 => ?_) (fun h88 => ?_)
        · try simp only [decide_eq_true_eq] at h88
          have h48 : c = 48 := UInt8.toNat_inj.1 (by show c.toNat = 48; omega)
          refine .gd rfl rfl <| .yv (.move rfl) rfl <| .gd rfl rfl <| .yv (.move rfl) rfl <| .gd rfl rfl <| .yv (.add rfl rfl (w64 (by omega) (by omega))) rfl <| .gd rfl rfl <|
            .yv (.gtr rfl rfl) rfl <| .yv (.pickT rfl rfl) rfl <| .nl <| .tN <| .cd rfl (fun h93 => ?_) (fun h93 => ?_)
          · try simp only [decide_eq_true_eq] at h93
            have hor : ¬ (pre digB (c :: m) = 1 ∨ c ≠ 48) := by
              rintro (h | h)
              · omega
              · exact h h48
            refine .sq <| .rg <| .m rfl rfl <| .m rfl rfl <| .yv (.cast (.dropS Fx.str9 rfl rfl rfl (by omega)) (by rw [← hm])) rfl <| .m rfl rfl <| .yv (.build rfl (Fx.bld167_0_1_2 _ _ _)) rfl <|
              .sW .head rfl rfl Fx.size167 (by simp [Value.oneCell', strV]) rfl <| .nl <| .tN <| .rt <| .tR <| .tR <| ?_
            refine Sx.ret1 (.inl rfl) rfl (.cell rfl Fx.agg167 (.head _) rfl) fun W s => ⟨?_, (s.ext)⟩
            first
              | (simp only [readK, List.headD_cons, h15, hw, if_true, if_false, Bool.false_eq_true]; rfl)
              | (simp only [readK, List.headD_cons, h15, hw, if_true, if_false, Bool.false_eq_true, List.take_length]; rfl)
              | (simp only [readK, List.headD_cons, h15, hw, hw9, if_true, if_false, Bool.false_eq_true]; rfl)
              | (simp only [readK, List.headD_cons, h15, hw, hw9, if_true, if_false, Bool.false_eq_true, List.take_length]; rfl)
              | (simp only [readK, List.headD_cons, h15, h71, hor, if_true, if_false, Bool.false_eq_true]; rfl)
              | (simp only [readK, List.headD_cons, h15, h71, hor, if_true, if_false, Bool.false_eq_true, List.take_length]; rfl)
              | (simp only [readK, List.headD_cons, h15, h71, hfind, if_true, if_false, Bool.false_eq_true]; rfl)
              | (simp only [readK, List.headD_cons, h15, h71, hfind, if_true, if_false, Bool.false_eq_true, List.take_length]; rfl)
              | (simp only [readK, List.headD_cons, h15, h71, hfind, if_true, if_false, Bool.false_eq_true, sym_take hfind]; rfl)
              | (simp only [readK, List.headD_cons, h15, h71, hfind, if_true, if_false, Bool.false_eq_true, List.take_length]; rfl)
          · try simp only [decide_eq_false_iff_not] at h93
            have hp1 := pre_step (l := c :: m) (k := 0) (by simp) (Nat.zero_le _) h71
            have hor : (pre digB (c :: m) = 1 ∨ c ≠ 48) := .inl (by omega)
            refine .sk <| .tN <| .sq <| .rg <| .m rfl rfl <| .m rfl rfl <| .m rfl rfl <| .yv (.cast (.midS Fx.str9 rfl rfl rfl rfl rfl (by omega) (by have := pre_le digB (c :: m); omega)) (by rw [mid_take, ← hm])) rfl <|
              .m rfl rfl <| .yv (.build rfl (Fx.bld167_0_1_2 _ _ _)) rfl <| .sW .head rfl rfl Fx.size167 (by simp [Value.oneCell', strV]) rfl <| .nl <| .tN <| .rt <| .tR <|
              ?_
            refine Sx.ret1 (.inl rfl) rfl (.cell rfl Fx.agg167 (.head _) rfl) fun W s => ⟨?_, (s.ext)⟩
            first
              | (simp only [readK, List.headD_cons, h15, hw, if_true, if_false, Bool.false_eq_true]; rfl)
              | (simp only [readK, List.headD_cons, h15, hw, if_true, if_false, Bool.false_eq_true, List.take_length]; rfl)
              | (simp only [readK, List.headD_cons, h15, hw, hw9, if_true, if_false, Bool.false_eq_true]; rfl)
              | (simp only [readK, List.headD_cons, h15, hw, hw9, if_true, if_false, Bool.false_eq_true, List.take_length]; rfl)
              | (simp only [readK, List.headD_cons, h15, h71, hor, if_true, if_false, Bool.false_eq_true]; rfl)
              | (simp only [readK, List.headD_cons, h15, h71, hor, if_true, if_false, Bool.false_eq_true, List.take_length]; rfl)
              | (simp only [readK, List.headD_cons, h15, h71, hfind, if_true, if_false, Bool.false_eq_true]; rfl)
              | (simp only [readK, List.headD_cons, h15, h71, hfind, if_true, if_false, Bool.false_eq_true, List.take_length]; rfl)
              | (simp only [readK, List.headD_cons, h15, h71, hfind, if_true, if_false, Bool.false_eq_true, sym_take hfind]; rfl)
              | (simp only [readK, List.headD_cons, h15, h71, hfind, if_true, if_false, Bool.false_eq_true, List.take_length]; rfl)
        · try simp only [decide_eq_false_iff_not] at h88
          have hor : (pre digB (c :: m) = 1 ∨ c ≠ 48) := .inr (fun e => h88 (by rw [e]; rfl))
          refine .gF rfl rfl rfl rfl <| .gF rfl rfl rfl rfl <| .gF rfl rfl rfl rfl <| .gF rfl rfl rfl rfl <| .yv (.pickF rfl rfl) rfl <| .nl <| .tN <| .cF rfl <| .sk <| .tN <|
            .sq <| .rg <| .m rfl rfl <| .m rfl rfl <| .m rfl rfl <| .yv (.cast (.midS Fx.str9 rfl rfl rfl rfl rfl (by omega) (by have := pre_le digB (c :: m); omega)) (by rw [mid_take, ← hm])) rfl <|
            .m rfl rfl <| .yv (.build rfl (Fx.bld167_0_1_2 _ _ _)) rfl <| .sW .head rfl rfl Fx.size167 (by simp [Value.oneCell', strV]) rfl <| .nl <| .tN <| .rt <| .tR <|
            ?_
          refine Sx.ret1 (.inl rfl) rfl (.cell rfl Fx.agg167 (.head _) rfl) fun W s => ⟨?_, (s.ext)⟩
          first
            | (simp only [readK, List.headD_cons, h15, hw, if_true, if_false, Bool.false_eq_true]; rfl)
            | (simp only [readK, List.headD_cons, h15, hw, if_true, if_false, Bool.false_eq_true, List.take_length]; rfl)
            | (simp only [readK, List.headD_cons, h15, hw, hw9, if_true, if_false, Bool.false_eq_true]; rfl)
            | (simp only [readK, List.headD_cons, h15, hw, hw9, if_true, if_false, Bool.false_eq_true, List.take_length]; rfl)
            | (simp only [readK, List.headD_cons, h15, h71, hor, if_true, if_false, Bool.false_eq_true]; rfl)
            | (simp only [readK, List.headD_cons, h15, h71, hor, if_true, if_false, Bool.false_eq_true, List.take_length]; rfl)
            | (simp only [readK, List.headD_cons, h15, h71, hfind, if_true, if_false, Bool.false_eq_true]; rfl)
            | (simp only [readK, List.headD_cons, h15, h71, hfind, if_true, if_false, Bool.false_eq_true, List.take_length]; rfl)
            | (simp only [readK, List.headD_cons, h15, h71, hfind, if_true, if_false, Bool.false_eq_true, sym_take hfind]; rfl)
            | (simp only [readK, List.headD_cons, h15, h71, hfind, if_true, if_false, Bool.false_eq_true, List.take_length]; rfl)
    · skip
      refine .sk <| .tN <| .sq <| .sq <| .rg <| .ct (X := Nat) Fx.call104 rfl (fun W s => symbolsR_any H W s.agr) rfl fun b105 H1 m1 u1 => .yv (.lenSl Fx.sl56 rfl) rfl <|
        .m rfl rfl <| .nl <| .tN <| .bk <| .lp (X := Nat) [(0, _), (1, _), (4, _), (105, _), (106, _)] ⟨rfl, rfl, rfl, rfl, rfl, trivial⟩ [_] (fun k => [(107, .int .i64 (k : Nat))]) (fun k => H1) (fun k => []) (fun k => k ≤ 25 ∧ ∀ j, j < k → hasP (c :: m) (symbols.getD j []) = false) (fun k => 25 - k) 0 (fun _ s => s) ⟨rfl, trivial⟩ ⟨by omega, fun j hj => by omega⟩ fun k hC => ?_
      obtain ⟨hk0, hne⟩ := hC
      refine .sq <| .rg <| .yv (.lss rfl rfl) rfl <| .nl <| .tN <| .sq <| .cd rfl (fun h108 => ?_) (fun h108 => ?_)
      · try simp only [decide_eq_true_eq] at h108
        refine .sk <| .tN <| .sq <| .bk <| .sq <| .rg <| .yv (.indexSl Fx.sl56 rfl rfl rfl (by omega) (q := k) (by omega)) rfl <| .yv (.loadM rfl Fx.agg9 m1 (k := k) (by omega) (list_at (by show k < 25; omega) [])) rfl <|
          .a rfl rfl <| .nl <| .tN <| .sq <| .rg <| .m rfl rfl <| .yv (.lenS Fx.str9 rfl) rfl <| .m rfl rfl <| .yv (.sub rfl rfl (w64 (by omega) (by omega))) rfl <| .m rfl rfl <|
          .yv (.lenS Fx.str9 rfl) rfl <| .yv (.geq rfl rfl) rfl <| .m rfl rfl <| .b2 (fun h118 => ?_) (fun h118 => ?_)
        · try simp only [decide_eq_true_eq] at h118
          refine .gd rfl rfl <| .yv (.move rfl) rfl <| .gd rfl rfl <| .yv (.move rfl) rfl <| .gd rfl rfl <| .yv (.move rfl) rfl <| .gd rfl rfl <| .yv (.move rfl) rfl <| .gd rfl rfl <|
            .yv (.lenS Fx.str9 rfl) rfl <| .gd rfl rfl <| .yv (.add rfl rfl (w64 (by omega) (by omega))) rfl <| .gd rfl rfl <| .yv (.cast (.midS Fx.str9 rfl rfl rfl rfl (hi := o + (symbols.getD k []).length) (by omega) (by omega) (by omega)) (by rw [mid_take, ← hm])) rfl <|
            .gd rfl rfl <| .yv (.move rfl) rfl <| .gd rfl rfl <| .yv (.eqS rfl rfl) rfl <| .yv (.pickT rfl rfl) rfl <| .nl <| .tN <| .cd rfl (fun h128 => ?_) (fun h128 => ?_)
          · try simp only [decide_eq_true_eq] at h128
            have hfind := sym_find (l := c :: m) (by omega) hne (by simp only [hasP, Bool.and_eq_true, decide_eq_true_eq] at *; exact ⟨by omega, by assumption⟩)
            refine .sq <| .rg <| .m rfl rfl <| .m rfl rfl <| .yv (.build rfl (Fx.bld167_0_1_2 _ _ _)) rfl <| .sW .head rfl rfl Fx.size167 (by simp [Value.oneCell', strV]) rfl <|
              .nl <| .tN <| .rt <| .bR <| .tR <| .tR <| .bR <| .tR <| ?_
            refine Sx.ret1 (.inl rfl) rfl (.cell rfl Fx.agg167 (.head _) rfl) fun W s => ⟨?_, (u1.grow s).ext⟩
            first
              | (simp only [readK, List.headD_cons, h15, hw, if_true, if_false, Bool.false_eq_true]; rfl)
              | (simp only [readK, List.headD_cons, h15, hw, if_true, if_false, Bool.false_eq_true, List.take_length]; rfl)
              | (simp only [readK, List.headD_cons, h15, hw, hw9, if_true, if_false, Bool.false_eq_true]; rfl)
              | (simp only [readK, List.headD_cons, h15, hw, hw9, if_true, if_false, Bool.false_eq_true, List.take_length]; rfl)
              | (simp only [readK, List.headD_cons, h15, h71, hor, if_true, if_false, Bool.false_eq_true]; rfl)
              | (simp only [readK, List.headD_cons, h15, h71, hor, if_true, if_false, Bool.false_eq_true, List.take_length]; rfl)
              | (simp only [readK, List.headD_cons, h15, h71, hfind, if_true, if_false, Bool.false_eq_true]; rfl)
              | (simp only [readK, List.headD_cons, h15, h71, hfind, if_true, if_false, Bool.false_eq_true, List.take_length]; rfl)
              | (simp only [readK, List.headD_cons, h15, h71, hfind, if_true, if_false, Bool.false_eq_true, sym_take hfind]; rfl)
              | (simp only [readK, List.headD_cons, h15, h71, hfind, if_true, if_false, Bool.false_eq_true, List.take_length]; rfl)
          · try simp only [decide_eq_false_iff_not] at h128
            exact .sk <| .bN <| .tN <| .rg <| .yv (.add rfl rfl (w64 (by omega) (by omega))) rfl <| .m rfl rfl <| .nl <| .tN <| .ag (k + 1) ⟨rfl, trivial⟩ ⟨rfl, rfl, rfl, rfl, rfl, trivial⟩ (fun _ s => s) ⟨by omega, fun j hj => by
    by_cases e : j = k
    · subst e; simp only [hasP, Bool.and_eq_false_iff, decide_eq_false_iff_not] at *; first | exact .inl (by omega) | exact .inr (by assumption)
    · exact hne j (by omega)⟩ (by omega)
        · try simp only [decide_eq_false_iff_not] at h118
          exact .gF rfl rfl rfl rfl <| .gF rfl rfl rfl rfl <| .gF rfl rfl rfl rfl <| .gF rfl rfl rfl rfl <| .gF rfl rfl rfl rfl <| .gF rfl rfl rfl rfl <| .gF rfl rfl rfl rfl <|
            .gF rfl rfl rfl rfl <| .gF rfl rfl rfl rfl <| .yv (.pickF rfl rfl) rfl <| .nl <| .tN <| .cF rfl <| .sk <| .bN <| .tN <| .rg <| .yv (.add rfl rfl (w64 (by omega) (by omega))) rfl <|
            .m rfl rfl <| .nl <| .tN <| .ag (k + 1) ⟨rfl, trivial⟩ ⟨rfl, rfl, rfl, rfl, rfl, trivial⟩ (fun _ s => s) ⟨by omega, fun j hj => by
    by_cases e : j = k
    · subst e; simp only [hasP, Bool.and_eq_false_iff, decide_eq_false_iff_not] at *; first | exact .inl (by omega) | exact .inr (by assumption)
    · exact hne j (by omega)⟩ (by omega)
      · try simp only [decide_eq_false_iff_not] at h108
        have hfind := sym_none (l := c :: m) (fun j hj => hne j (by omega))
        refine .ex <| .tE <| .tE <| .bE <| .tN <| .sq <| .rg <| .m rfl rfl <| .m rfl rfl <| .yv (.cast (.dropS Fx.str9 rfl rfl rfl (by omega)) (by rw [← hm])) rfl <| .m rfl rfl <|
          .yv (.build rfl (Fx.bld167_0_1_2 _ _ _)) rfl <| .sW .head rfl rfl Fx.size167 (by simp [Value.oneCell', strV]) rfl <| .nl <| .tN <| .rt <| ?_
        refine Sx.ret1 (.inl rfl) rfl (.cell rfl Fx.agg167 (.head _) rfl) fun W s => ⟨?_, (u1.grow s).ext⟩
        first
          | (simp only [readK, List.headD_cons, h15, hw, if_true, if_false, Bool.false_eq_true]; rfl)
          | (simp only [readK, List.headD_cons, h15, hw, if_true, if_false, Bool.false_eq_true, List.take_length]; rfl)
          | (simp only [readK, List.headD_cons, h15, hw, hw9, if_true, if_false, Bool.false_eq_true]; rfl)
          | (simp only [readK, List.headD_cons, h15, hw, hw9, if_true, if_false, Bool.false_eq_true, List.take_length]; rfl)
          | (simp only [readK, List.headD_cons, h15, h71, hor, if_true, if_false, Bool.false_eq_true]; rfl)
          | (simp only [readK, List.headD_cons, h15, h71, hor, if_true, if_false, Bool.false_eq_true, List.take_length]; rfl)
          | (simp only [readK, List.headD_cons, h15, h71, hfind, if_true, if_false, Bool.false_eq_true]; rfl)
          | (simp only [readK, List.headD_cons, h15, h71, hfind, if_true, if_false, Bool.false_eq_true, List.take_length]; rfl)
          | (simp only [readK, List.headD_cons, h15, h71, hfind, if_true, if_false, Bool.false_eq_true, sym_take hfind]; rfl)
          | (simp only [readK, List.headD_cons, h15, h71, hfind, if_true, if_false, Bool.false_eq_true, List.take_length]; rfl)
end Go.Proofs.YtmbiojpcidccjaaDoor
/- Facts on types and functions. -/
namespace Go.Proofs.YtmbiojpcidccjaaDoor
open Go.RowKit Go.Par Go.Sx
theorem Fx.call72 : callN Tryd.prog 72 = Bool.true := by kernel_rfl
theorem Fx.call84 : callN Tryd.prog 84 = Bool.true := by kernel_rfl
theorem Fx.call85 : callN Tryd.prog 85 = Bool.true := by kernel_rfl
theorem Fx.field167_0 : fieldN Tryd.prog 167 0 = Option.some 0 := by kernel_rfl
theorem Fx.field167_1 : fieldN Tryd.prog 167 1 = Option.some 1 := by kernel_rfl
theorem Fx.row164 : rowN Tryd.prog 164 = Option.some (167, 3, 32) := by kernel_rfl
theorem Fx.sl164 : slN Tryd.prog 164 = Option.some 3 := by kernel_rfl
theorem Fx.bsl164_1 (x00 x01 x02 : Value) : bslN Tryd.prog 164 1 [(0, .agg [x00, x01, x02].toArray)] = some (167, [x00, x01, x02]) := by kernel_rfl
end Go.Proofs.YtmbiojpcidccjaaDoor
/- Contracts: Lex, IsName. -/
namespace Go.Proofs.YtmbiojpcidccjaaDoor
open Go.RowKit Go.Par Go.Sx
theorem lex_next {s m : Str} {o : Nat} (hm : m = s.drop o) (h : o < s.length) (hsl : (skipS false (m.drop (readK m).2)).length ≤ m.length - (readK m).2) :
    skipS false (m.drop (readK m).2) = s.drop (o + (m.length - (skipS false (m.drop (readK m).2)).length)) := by
  have h1 := skipS_drop false (m.drop (readK m).2)
  rw [List.length_drop, List.drop_drop] at h1
  by_cases h0 : (readK m).2 ≤ m.length
  · rw [show (readK m).2 + (m.length - (readK m).2 - (skipS false (m.drop (readK m).2)).length) = m.length - (skipS false (m.drop (readK m).2)).length by omega] at h1
    rw [← List.drop_drop, ← hm]
    exact h1.symm
  · have e : m.drop (readK m).2 = [] := List.drop_of_length_le (by omega)
    rw [e, skipS_nil, ← List.drop_drop, ← hm]
    simp
theorem next_m (H : Hp) (s : Str) (hl : s.length ≤ 1000000) (o : Nat) (ho : o < s.length) (m : Str) (hm : m = s.drop o) (w : World) (hA : Agr H w) :
    Calls Tryd.prog 85 #[strV s, .int .i64 (o : Nat)] w fun r w' => r = .returned (.agg (cTk .i64 ⟨(readK m).1, m.take (readK m).2, o⟩).toArray) ∧ Ext w w' := by
  subst hm
  exact next_any H s hl o ho w hA
set_option maxRecDepth 100000 in
theorem lexR_any (H : Hp) (s : Str) (hl : s.length ≤ 1000000) (w : World) (hA : Agr H w) :
    Calls Tryd.prog 72 #[strV s] w fun r w' => ∃ (v : Value) (H' : Hp), Rep H' (.seq 3 ((lexR s).map (dTk .i64))) [v] ∧ r = .returned v ∧ Grow H w H' w' := by
  refine Sx.enter (H := H) Tryd.func72 rfl Tryd.ntmps72 rfl hA ?_
  refine .sq <| .rg <| .a rfl rfl <| .nl <| .tN <| .sq <| .rg <| .a rfl rfl <| ?_
  refine Sx.row0 167 3 ?_
  refine .nl <| .tN <| .sq <| .rg <| .m rfl rfl <| .yv (.call Fx.call84 rfl (fun W _ => skip_any s hl 0 (by omega) W)) rfl <| .a rfl rfl <| .nl <| .tN <| .sq <| .bk <|
    .lp (X := Nat × Nat × Value × List Value) [(0, _)] ⟨rfl, trivial⟩ [] (fun z => [(3, z.2.2.1), (4, .int .i64 (z.1 : Nat))]) (fun z => H) (fun z => [.row 167 3 z.2.2.1 z.2.1 z.2.2.2]) (fun z => z.1 ≤ s.length ∧ z.2.1 ≤ z.1 ∧ ∃ tk : List Tk, tk.length = z.2.1 ∧ RepZ H 3 (tk.map (dTk .i64)) z.2.2.2 ∧ tk ++ tokF (s.length + 1) z.1 (s.drop z.1) = lexR s) (fun z => s.length - z.1) (s.length - (skipS false s).length, 0, .slice none 0 0, []) (fun _ s => s) ⟨rfl, rfl, trivial⟩ ⟨by dsimp only; omega, by dsimp only; omega, [], rfl, RepZ.nil, by rw [skipS_drop]; rfl⟩ fun z hC => ?_
  obtain ⟨o, n, r, xs⟩ := z
  dsimp only at hC ⊢
  obtain ⟨ho, hn, tk, hk, hz, htk⟩ := hC
  refine .sq <| .sq <| .rg <| .m rfl rfl <| .m rfl rfl <| .yv (.lenS Fx.str9 rfl) rfl <| .yv (.lss rfl rfl) rfl <| .nl <| .tN <| .cd rfl (fun h11 => ?_) (fun h11 => ?_)
  · try simp only [decide_eq_true_eq] at h11
    have hlt : o < s.length := by omega
    obtain ⟨m, hm⟩ : ∃ m, m = s.drop o := ⟨_, rfl⟩
    have hml : m.length = s.length - o := by rw [hm, List.length_drop]
    have hm0 : m ≠ [] := by intro e; rw [e] at hml; simp at hml; omega
    have hrk := readK_bnd hm0
    have htl : (m.take (readK m).2).length = (readK m).2 := by rw [List.length_take]; omega
    rw [← hm] at htk
    have hsl := skipS_len false (m.drop (readK m).2)
    rw [List.length_drop] at hsl
    exact .sk <| .tN <| .bk <| .sq <| .rg <| .m rfl rfl <| .m rfl rfl <| .yv (.call Fx.call85 rfl (fun W t => next_m H s hl o hlt m hm W t.agr)) rfl <| .al Fx.zero167 rfl fun b5 => .sW .head rfl rfl Fx.size167 (by simp [cTk, Value.oneCell', strV]) rfl <|
      .nl <| .tN <| .sq <| .rg <| .m rfl rfl <| .yv (.loadW rfl Fx.agg167 (.head _) rfl) rfl <| .bl rfl (Fx.bsl164_1 _ _ _) rfl fun b17 => .ap (news := cTk .i64 ⟨(readK m).1, m.take (readK m).2, o⟩) Fx.row164 rfl (fun _ => (.tail <|
      .tail <| .head)) rfl (.box (.head _) (fun j u h => by rw [Nat.zero_add]; exact h)) rfl (by simp [cTk, Value.oneCell', strV]) (by simp [maxLen]; omega) (by omega) rfl fun r18 _ => .a rfl rfl <|
      .nl <| .tN <| .rg <| .m rfl rfl <| .m rfl rfl <| .yv (.fieldAddr rfl Fx.field167_1) rfl <| .yv (.load rfl Fx.agg9 (.tail _ <| .head _) rfl) rfl <| .yv (.lenS Fx.str9 rfl) rfl <|
      .yv (.add rfl rfl (c := ((o + (readK m).2 : Nat) : Int)) (by rw [htl]; exact (w64 (by omega) (by omega)).trans (by omega))) rfl <| .yv (.cast (.call Fx.call84 rfl (fun W _ => skip_any s hl (o + (readK m).2) (by omega) W)) (by rw [← List.drop_drop, ← hm, show s.length - (skipS false (m.drop (readK m).2)).length = o + (m.length - (skipS false (m.drop (readK m).2)).length) by omega])) rfl <|
      .a rfl rfl <| .nl <| .bN <| .tN <| .ag (x := (o, n, r, xs)) (o + (m.length - (skipS false (m.drop (readK m).2)).length), n + 1, r18, xs ++ cTk .i64 ⟨(readK m).1, m.take (readK m).2, o⟩) ⟨rfl, rfl, trivial⟩ ⟨rfl, trivial⟩ (fun _ s => (s.pick [2] _ rfl rfl)) ⟨by dsimp only; omega, by dsimp only; omega, tk ++ [⟨(readK m).1, m.take (readK m).2, o⟩], by simp; omega, by dsimp only; rw [List.map_append]; exact hz.snoc (tk_shut (by rw [htl]; omega)) rfl, by dsimp only; rw [← htk, List.append_assoc, ← lex_next hm hlt hsl, tokF_step hm0, List.cons_append, List.nil_append, tokF_more (s.length + 1) s.length _ _ (by omega) (by omega)]⟩ (by dsimp only; omega)
  · try simp only [decide_eq_false_iff_not] at h11
    obtain rfl : o = s.length := by omega
    rw [List.drop_length, tokF_nil, List.append_nil] at htk
    refine .ex <| .tE <| .tE <| .bE <| .tN <| .sq <| .rg <| .m rfl rfl <| .a rfl rfl <| .nl <| .tN <| .rt <| ?_
    refine At.pm [0] [_] rfl rfl ?_
    refine Sx.freezeSeq (ds := (lexR s).map (dTk .i64)) (by rw [← htk]; simp; omega) (by rw [← htk]; exact hz) fun H3 p3 c3 u3 hr3 hs3 => ?_
    exact Sx.ret1 (.inl rfl) rfl (.tmp rfl) fun W t => ⟨r, H3, hs3, rfl, u3.grow t⟩
theorem one_of {s : Str} {x : Tk} (h : (lexR s).length = 1) (hx : (lexR s)[0] = x) : lexR s = [x] := by
  match e : lexR s, h with
  | [y], _ => simp only [e, List.getElem_cons_zero] at hx; rw [hx]
theorem name_no1 {s : Str} (h : ¬ (lexR s).length = 1) : nameB s = false := by
  rw [Bool.eq_false_iff, Ne, lex_name]
  rintro ⟨o, e⟩
  rw [e] at h; exact h rfl
theorem name_no2 {s : Str} {x : Tk} (h : (lexR s).length = 1) (hx : (lexR s)[0] = x) (hk : ¬ x.k = 1) : nameB s = false := by
  rw [Bool.eq_false_iff, Ne, lex_name]
  rintro ⟨o, e⟩
  rw [one_of h hx] at e
  injection e with e _
  exact hk (by rw [e])
theorem name_is {s : Str} {x : Tk} (h : (lexR s).length = 1) (hx : (lexR s)[0] = x) (hk : x.k = 1) : nameB s = decide (x.t = s) := by
  rw [Bool.eq_iff_iff, lex_name, decide_eq_true_eq, one_of h hx]
  obtain ⟨k, t, o⟩ := x
  constructor
  · rintro ⟨o, e⟩
    injection e with e _
    injection e
  · intro e
    dsimp only at hk e
    exact ⟨o, by rw [hk, e]⟩
set_option maxRecDepth 100000 in
theorem isNameR_any (H : Hp) (s : Str) (hl : s.length ≤ 1000000) (w : World) (hA : Agr H w) :
    Calls Tryd.prog 49 #[strV s] w fun r w' => r = .returned (.bool (nameB s)) ∧ Ext w w' := by
  refine Sx.enter (H := H) Tryd.func49 rfl Tryd.ntmps49 rfl hA ?_
  refine .sq <| .rg <| .a rfl rfl <| .nl <| .tN <| .sq <| .rg <| .m rfl rfl <| .ct (X := Value) Fx.call72 rfl (fun W t => lexR_any H s hl W t.agr) rfl fun v H1 hsq u1 => ?_
  obtain ⟨p, c, e, _⟩ := hsq.sl
  simp only [List.cons.injEq, and_true] at e
  subst e
  refine .a rfl rfl <| .nl <| .tN <| .sq <| .rg <| .m rfl rfl <| .yv (.lenSl Fx.sl164 rfl) rfl <| .yv (.eql rfl rfl) rfl <| .m rfl rfl <| .b2 (fun h9 => ?_) (fun h9 => ?_)
  · try simp only [decide_eq_true_eq] at h9
    have hl1 : (lexR s).length = 1 := by simp only [List.length_map] at *; omega
    obtain ⟨bE, oE, cE, hpE, rE, lE, mE⟩ := hsq.elem (map_at (f := dTk .i64) (show 0 < (lexR s).length by omega))
    subst hpE
    generalize hx : (lexR s)[0] = x at rE
    obtain ⟨rfl, hxt⟩ := tk_open rE
    refine .gd rfl rfl <| .yv (.move rfl) rfl <| .gd rfl rfl <| .yv (.indexSl Fx.sl164 rfl rfl (i := 0) rfl (by omega) (q := oE + 0 * 3) (by omega)) rfl <| .gd rfl rfl <|
      .yv (.fieldAddr rfl Fx.field167_0) rfl <| .gd rfl rfl <| .yv (.loadM rfl Fx.agg3 mE (k := 0) rfl rfl) rfl <| .gd rfl rfl <| .yv (.eql rfl rfl) rfl <| .yv (.pickT rfl rfl) rfl <|
      .m rfl rfl <| .b2 (fun h16 => ?_) (fun h16 => ?_)
    · try simp only [decide_eq_true_eq] at h16
      have hk1 : x.k = 1 := UInt8.toNat_inj.1 (by show x.k.toNat = 1; omega)
      refine .gd rfl rfl <| .yv (.move rfl) rfl <| .gd rfl rfl <| .yv (.indexSl Fx.sl164 rfl rfl (i := 0) rfl (by omega) (q := oE + 0 * 3) (by omega)) rfl <| .gd rfl rfl <|
        .yv (.fieldAddr rfl Fx.field167_1) rfl <| .gd rfl rfl <| .yv (.loadM rfl Fx.agg9 mE (k := 1) rfl rfl) rfl <| .gd rfl rfl <| .yv (.move rfl) rfl <| .gd rfl rfl <|
        .yv (.eqS rfl rfl) rfl <| .yv (.pickT rfl rfl) rfl <| .a rfl rfl <| .nl <| .tN <| .rt <| ?_
      refine Sx.ret1 (.inl rfl) rfl (.tmp rfl) fun W t => ⟨?_, (u1.grow t).ext⟩
      first
        | (rw [hno])
        | (rw [name_is hl1 hx hk1])
    · try simp only [decide_eq_false_iff_not] at h16
      have hno : nameB s = false := name_no2 hl1 hx (fun e => h16 (by rw [e]; rfl))
      refine .gF rfl rfl rfl rfl <| .gF rfl rfl rfl rfl <| .gF rfl rfl rfl rfl <| .gF rfl rfl rfl rfl <| .gF rfl rfl rfl rfl <| .gF rfl rfl rfl rfl <| .yv (.pickF rfl rfl) rfl <|
        .a rfl rfl <| .nl <| .tN <| .rt <| ?_
      refine Sx.ret1 (.inl rfl) rfl (.tmp rfl) fun W t => ⟨?_, (u1.grow t).ext⟩
      first
        | (rw [hno])
        | (rw [name_is hl1 hx hk1])
  · try simp only [decide_eq_false_iff_not] at h9
    have hno : nameB s = false := name_no1 (by simp only [List.length_map] at *; omega)
    refine .gF rfl rfl rfl rfl <| .gF rfl rfl rfl rfl <| .gF rfl rfl rfl rfl <| .gF rfl rfl rfl rfl <| .gF rfl rfl rfl rfl <| .yv (.pickF rfl rfl) rfl <| .m rfl rfl <|
      .gF rfl rfl rfl rfl <| .gF rfl rfl rfl rfl <| .gF rfl rfl rfl rfl <| .gF rfl rfl rfl rfl <| .gF rfl rfl rfl rfl <| .gF rfl rfl rfl rfl <| .yv (.pickF rfl rfl) rfl <|
      .a rfl rfl <| .nl <| .tN <| .rt <| ?_
    refine Sx.ret1 (.inl rfl) rfl (.tmp rfl) fun W t => ⟨?_, (u1.grow t).ext⟩
    first
      | (rw [hno])
      | (rw [name_is hl1 hx hk1])
end Go.Proofs.YtmbiojpcidccjaaDoor
/- Facts on types and functions. -/
namespace Go.Proofs.YtmbiojpcidccjaaDoor
open Go.RowKit Go.Par Go.Sx
theorem Fx.call26 : callN Tryd.prog 26 = Bool.true := by kernel_rfl
theorem Fx.call27 : callN Tryd.prog 27 = Bool.true := by kernel_rfl
theorem Fx.call49 : callN Tryd.prog 49 = Bool.true := by kernel_rfl
end Go.Proofs.YtmbiojpcidccjaaDoor
/- Contracts: CheckExpr of the specification. -/
namespace Go.Proofs.YtmbiojpcidccjaaDoor
open Go.RowKit Go.Par Go.Sx
theorem shape_nm (op : UInt8) : (shapeOf op).nm = (decide (5 ≤ op.toNat) && decide (op.toNat ≤ 8)) := by
  have key : ∀ i ∈ List.range 256, (shapeOf (UInt8.ofNat i)).nm = (decide (5 ≤ i) && decide (i ≤ 8)) := by decide +kernel
  have h := key op.toNat (List.mem_range.2 op.toNat_lt)
  rwa [UInt8.ofNat_toNat] at h
theorem nam_iff (op : UInt8) (nm : Str) (n : Int64) (args : List Ex) : namE (.mk op nm n args) = true ↔ ¬ ((5 ≤ (op.toNat : Int) ∧ (op.toNat : Int) ≤ 8) ∧ nameB nm = false) := by
  rw [namE, shape_nm]
  cases nameB nm with
  | true => simp
  | false => simp only [Bool.or_false, Bool.not_eq_true', Bool.and_eq_false_iff, decide_eq_false_iff_not, and_true]; omega
set_option maxRecDepth 100000 in
theorem exprNames_any (H : Hp) (e : Ex) : ∀ (cs : List Value) (w : World), Rep H (dEx .i64 e) cs → Agr H w →
    Calls Tryd.prog 26 #[.agg cs.toArray] w fun r w' => r = .returned (.bool (e.all namE)) ∧ Ext w w' := by
  induction e using Ex.ind with | _ op nm nn args ih
  intro cs w h hA
  obtain ⟨p, c, rfl, hs, hnm⟩ := ex_open h
  have hcap := hs.cap
  skip
  refine Sx.enter (H := H) Tryd.func26 rfl Tryd.ntmps26 rfl hA ?_
  refine .sq <| .rg <| .bx rfl rfl rfl fun b1 => .a rfl rfl <| .nl <| .tN <| .sq <| .sq <| .rg <| .yv (.fieldAddr rfl Fx.field26_0) rfl <| .yv (.load rfl Fx.agg3 (.head _) rfl) rfl <|
    .yv (.geq rfl rfl) rfl <| .m rfl rfl <| .b2 (fun h8 => ?_) (fun h8 => ?_)
  · try simp only [decide_eq_true_eq] at h8
    refine .gd rfl rfl <| .yv (.fieldAddr rfl Fx.field26_0) rfl <| .gd rfl rfl <| .yv (.load rfl Fx.agg3 (.head _) rfl) rfl <| .gd rfl rfl <| .yv (.leq rfl rfl) rfl <|
      .yv (.pickT rfl rfl) rfl <| .m rfl rfl <| .b2 (fun h13 => ?_) (fun h13 => ?_)
    · try simp only [decide_eq_true_eq] at h13
      refine .gd rfl rfl <| .yv (.fieldAddr rfl Fx.field26_1) rfl <| .gd rfl rfl <| .yv (.load rfl Fx.agg9 (.head _) rfl) rfl <| .gd rfl rfl <| .yv (.call Fx.call49 rfl (fun W s => isNameR_any H nm hnm W s.agr)) rfl <|
        .gd rfl rfl <| .yv (.not rfl) rfl <| .yv (.pickT rfl rfl) rfl <| .nl <| .tN <| .cd rfl (fun h18 => ?_) (fun h18 => ?_)
      · skip
        refine .sq <| .rg <| .a rfl rfl <| .nl <| .tN <| .rt <| .tR <| ?_
        refine Sx.ret1 (.inl rfl) rfl (.tmp rfl) fun W s => ⟨retB ?_, s.ext⟩
        first
          | (rw [all_mk, show namE (.mk op nm nn args) = false from Bool.eq_false_iff.2 fun e => (nam_iff op nm nn args).1 e ⟨⟨by omega, by omega⟩, by simpa using h18⟩]; simp)
          | (rw [all_mk, alls_bad hk (by simpa using h28)]; simp)
          | (rw [all_mk, hal, Bool.and_true, show namE (.mk op nm nn args) = true from (nam_iff op nm nn args).2 (by rintro ⟨⟨a, b⟩, d⟩; first | omega | (simp [d] at h18))])
      · skip
        refine .sk <| .tN <| .sq <| .sq <| .rg <| .yv (.fieldAddr rfl Fx.field26_3) rfl <| .yv (.load rfl Fx.agg24 (.head _) rfl) rfl <| .yv (.lenSl Fx.sl24 rfl) rfl <|
          .m rfl rfl <| .nl <| .tN <| .bk <| .lp (X := Nat) [(20, _), (21, _)] ⟨rfl, rfl, trivial⟩ [_] (fun k => [(22, .int .i64 (k : Nat))]) (fun k => H) (fun k => []) (fun k => k ≤ args.length ∧ Ex.alls namE (args.take k) = true) (fun k => args.length - k) 0 (fun _ s => s) ⟨rfl, trivial⟩ ⟨by omega, rfl⟩ fun k hC => ?_
        obtain ⟨hk0, hal⟩ := hC
        refine .sq <| .rg <| .yv (.lss rfl rfl) rfl <| .nl <| .tN <| .sq <| .cd rfl (fun h23 => ?_) (fun h23 => ?_)
        · try simp only [decide_eq_true_eq] at h23
          have hk : k < args.length := by omega
          obtain ⟨bE, oE, cE, hpE, rE, lE, mE⟩ := hs.elem (map_at hk)
          cases hpE
          refine .sk <| .tN <| .sq <| .bk <| .sq <| .rg <| .yv (.indexSl Fx.sl24 rfl rfl rfl (by omega) (q := oE + k * 4) rfl) rfl <| .yv (.loadMW rfl Fx.agg26 mE lE) rfl <|
            .al Fx.zero26 rfl fun b4 => .sV .head rfl rfl Fx.size26 lE rE.one rfl <| .nl <| .tN <| .sq <| .rg <| .yv (.loadW rfl Fx.agg26 (.head _) lE) rfl <| .yv (.call Fx.call26 rfl (fun W s => ih _ (List.getElem_mem hk) cE W rE s.agr)) rfl <|
            .yv (.not rfl) rfl <| .nl <| .tN <| .cd rfl (fun h28 => ?_) (fun h28 => ?_)
          · skip
            refine .sq <| .rg <| .a rfl rfl <| .nl <| .tN <| .rt <| .bR <| .tR <| .tR <| .bR <| .tR <| ?_
            refine Sx.ret1 (.inl rfl) rfl (.tmp rfl) fun W s => ⟨retB ?_, s.ext⟩
            first
              | (rw [all_mk, show namE (.mk op nm nn args) = false from Bool.eq_false_iff.2 fun e => (nam_iff op nm nn args).1 e ⟨⟨by omega, by omega⟩, by simpa using h18⟩]; simp)
              | (rw [all_mk, alls_bad hk (by simpa using h28)]; simp)
              | (rw [all_mk, hal, Bool.and_true, show namE (.mk op nm nn args) = true from (nam_iff op nm nn args).2 (by rintro ⟨⟨a, b⟩, d⟩; first | omega | (simp [d] at h18))])
          · skip
            exact .sk <| .bN <| .tN <| .rg <| .yv (.add rfl rfl (w64 (by omega) (by omega))) rfl <| .m rfl rfl <| .nl <| .tN <| .ag (k + 1) ⟨rfl, trivial⟩ ⟨rfl, rfl, trivial⟩ (fun _ s => s.pick [1] [_] rfl rfl) ⟨by omega, by rw [alls_succ hk, hal]; simpa using h28⟩ (by omega)
        · try simp only [decide_eq_false_iff_not] at h23
          obtain rfl : k = args.length := by omega
          rw [List.take_length] at hal
          refine .ex <| .tE <| .tE <| .bE <| .tN <| .sq <| .rg <| .a rfl rfl <| .nl <| .tN <| .rt <| ?_
          refine Sx.ret1 (.inl rfl) rfl (.tmp rfl) fun W s => ⟨retB ?_, s.ext⟩
          first
            | (rw [all_mk, show namE (.mk op nm nn args) = false from Bool.eq_false_iff.2 fun e => (nam_iff op nm nn args).1 e ⟨⟨by omega, by omega⟩, by simpa using h18⟩]; simp)
            | (rw [all_mk, alls_bad hk (by simpa using h28)]; simp)
            | (rw [all_mk, hal, Bool.and_true, show namE (.mk op nm nn args) = true from (nam_iff op nm nn args).2 (by rintro ⟨⟨a, b⟩, d⟩; first | omega | (simp [d] at h18))])
    · try simp only [decide_eq_false_iff_not] at h13
      refine .gF rfl rfl rfl rfl <| .gF rfl rfl rfl rfl <| .gF rfl rfl rfl rfl <| .gF rfl rfl rfl rfl <| .yv (.pickF rfl rfl) rfl <| .nl <| .tN <| .cF rfl <| .sk <| .tN <|
        .sq <| .sq <| .rg <| .yv (.fieldAddr rfl Fx.field26_3) rfl <| .yv (.load rfl Fx.agg24 (.head _) rfl) rfl <| .yv (.lenSl Fx.sl24 rfl) rfl <| .m rfl rfl <| .nl <|
        .tN <| .bk <| .lp (X := Nat) [(20, _), (21, _)] ⟨rfl, rfl, trivial⟩ [_] (fun k => [(22, .int .i64 (k : Nat))]) (fun k => H) (fun k => []) (fun k => k ≤ args.length ∧ Ex.alls namE (args.take k) = true) (fun k => args.length - k) 0 (fun _ s => s) ⟨rfl, trivial⟩ ⟨by omega, rfl⟩ fun k hC => ?_
      obtain ⟨hk0, hal⟩ := hC
      refine .sq <| .rg <| .yv (.lss rfl rfl) rfl <| .nl <| .tN <| .sq <| .cd rfl (fun h23 => ?_) (fun h23 => ?_)
      · try simp only [decide_eq_true_eq] at h23
        have hk : k < args.length := by omega
        obtain ⟨bE, oE, cE, hpE, rE, lE, mE⟩ := hs.elem (map_at hk)
        cases hpE
        refine .sk <| .tN <| .sq <| .bk <| .sq <| .rg <| .yv (.indexSl Fx.sl24 rfl rfl rfl (by omega) (q := oE + k * 4) rfl) rfl <| .yv (.loadMW rfl Fx.agg26 mE lE) rfl <|
          .al Fx.zero26 rfl fun b4 => .sV .head rfl rfl Fx.size26 lE rE.one rfl <| .nl <| .tN <| .sq <| .rg <| .yv (.loadW rfl Fx.agg26 (.head _) lE) rfl <| .yv (.call Fx.call26 rfl (fun W s => ih _ (List.getElem_mem hk) cE W rE s.agr)) rfl <|
          .yv (.not rfl) rfl <| .nl <| .tN <| .cd rfl (fun h28 => ?_) (fun h28 => ?_)
        · skip
          refine .sq <| .rg <| .a rfl rfl <| .nl <| .tN <| .rt <| .bR <| .tR <| .tR <| .bR <| .tR <| ?_
          refine Sx.ret1 (.inl rfl) rfl (.tmp rfl) fun W s => ⟨retB ?_, s.ext⟩
          first
            | (rw [all_mk, show namE (.mk op nm nn args) = false from Bool.eq_false_iff.2 fun e => (nam_iff op nm nn args).1 e ⟨⟨by omega, by omega⟩, by simpa using h18⟩]; simp)
            | (rw [all_mk, alls_bad hk (by simpa using h28)]; simp)
            | (rw [all_mk, hal, Bool.and_true, show namE (.mk op nm nn args) = true from (nam_iff op nm nn args).2 (by rintro ⟨⟨a, b⟩, d⟩; first | omega | (simp [d] at h18))])
        · skip
          exact .sk <| .bN <| .tN <| .rg <| .yv (.add rfl rfl (w64 (by omega) (by omega))) rfl <| .m rfl rfl <| .nl <| .tN <| .ag (k + 1) ⟨rfl, trivial⟩ ⟨rfl, rfl, trivial⟩ (fun _ s => s.pick [1] [_] rfl rfl) ⟨by omega, by rw [alls_succ hk, hal]; simpa using h28⟩ (by omega)
      · try simp only [decide_eq_false_iff_not] at h23
        obtain rfl : k = args.length := by omega
        rw [List.take_length] at hal
        refine .ex <| .tE <| .tE <| .bE <| .tN <| .sq <| .rg <| .a rfl rfl <| .nl <| .tN <| .rt <| ?_
        refine Sx.ret1 (.inl rfl) rfl (.tmp rfl) fun W s => ⟨retB ?_, s.ext⟩
        first
          | (rw [all_mk, show namE (.mk op nm nn args) = false from Bool.eq_false_iff.2 fun e => (nam_iff op nm nn args).1 e ⟨⟨by omega, by omega⟩, by simpa using h18⟩]; simp)
          | (rw [all_mk, alls_bad hk (by simpa using h28)]; simp)
          | (rw [all_mk, hal, Bool.and_true, show namE (.mk op nm nn args) = true from (nam_iff op nm nn args).2 (by rintro ⟨⟨a, b⟩, d⟩; first | omega | (simp [d] at h18))])
  · try simp only [decide_eq_false_iff_not] at h8
    refine .gF rfl rfl rfl rfl <| .gF rfl rfl rfl rfl <| .gF rfl rfl rfl rfl <| .yv (.pickF rfl rfl) rfl <| .m rfl rfl <| .gF rfl rfl rfl rfl <| .gF rfl rfl rfl rfl <|
      .gF rfl rfl rfl rfl <| .gF rfl rfl rfl rfl <| .yv (.pickF rfl rfl) rfl <| .nl <| .tN <| .cF rfl <| .sk <| .tN <| .sq <| .sq <| .rg <| .yv (.fieldAddr rfl Fx.field26_3) rfl <|
      .yv (.load rfl Fx.agg24 (.head _) rfl) rfl <| .yv (.lenSl Fx.sl24 rfl) rfl <| .m rfl rfl <| .nl <| .tN <| .bk <| .lp (X := Nat) [(20, _), (21, _)] ⟨rfl, rfl, trivial⟩ [_] (fun k => [(22, .int .i64 (k : Nat))]) (fun k => H) (fun k => []) (fun k => k ≤ args.length ∧ Ex.alls namE (args.take k) = true) (fun k => args.length - k) 0 (fun _ s => s) ⟨rfl, trivial⟩ ⟨by omega, rfl⟩ fun k hC => ?_
    obtain ⟨hk0, hal⟩ := hC
    refine .sq <| .rg <| .yv (.lss rfl rfl) rfl <| .nl <| .tN <| .sq <| .cd rfl (fun h23 => ?_) (fun h23 => ?_)
    · try simp only [decide_eq_true_eq] at h23
      have hk : k < args.length := by omega
      obtain ⟨bE, oE, cE, hpE, rE, lE, mE⟩ := hs.elem (map_at hk)
      cases hpE
      refine .sk <| .tN <| .sq <| .bk <| .sq <| .rg <| .yv (.indexSl Fx.sl24 rfl rfl rfl (by omega) (q := oE + k * 4) rfl) rfl <| .yv (.loadMW rfl Fx.agg26 mE lE) rfl <|
        .al Fx.zero26 rfl fun b4 => .sV .head rfl rfl Fx.size26 lE rE.one rfl <| .nl <| .tN <| .sq <| .rg <| .yv (.loadW rfl Fx.agg26 (.head _) lE) rfl <| .yv (.call Fx.call26 rfl (fun W s => ih _ (List.getElem_mem hk) cE W rE s.agr)) rfl <|
        .yv (.not rfl) rfl <| .nl <| .tN <| .cd rfl (fun h28 => ?_) (fun h28 => ?_)
      · skip
        refine .sq <| .rg <| .a rfl rfl <| .nl <| .tN <| .rt <| .bR <| .tR <| .tR <| .bR <| .tR <| ?_
        refine Sx.ret1 (.inl rfl) rfl (.tmp rfl) fun W s => ⟨retB ?_, s.ext⟩
        first
          | (rw [all_mk, show namE (.mk op nm nn args) = false from Bool.eq_false_iff.2 fun e => (nam_iff op nm nn args).1 e ⟨⟨by omega, by omega⟩, by simpa using h18⟩]; simp)
          | (rw [all_mk, alls_bad hk (by simpa using h28)]; simp)
          | (rw [all_mk, hal, Bool.and_true, show namE (.mk op nm nn args) = true from (nam_iff op nm nn args).2 (by rintro ⟨⟨a, b⟩, d⟩; first | omega | (simp [d] at h18))])
      · skip
        exact .sk <| .bN <| .tN <| .rg <| .yv (.add rfl rfl (w64 (by omega) (by omega))) rfl <| .m rfl rfl <| .nl <| .tN <| .ag (k + 1) ⟨rfl, trivial⟩ ⟨rfl, rfl, trivial⟩ (fun _ s => s.pick [1] [_] rfl rfl) ⟨by omega, by rw [alls_succ hk, hal]; simpa using h28⟩ (by omega)
    · try simp only [decide_eq_false_iff_not] at h23
      obtain rfl : k = args.length := by omega
      rw [List.take_length] at hal
      refine .ex <| .tE <| .tE <| .bE <| .tN <| .sq <| .rg <| .a rfl rfl <| .nl <| .tN <| .rt <| ?_
      refine Sx.ret1 (.inl rfl) rfl (.tmp rfl) fun W s => ⟨retB ?_, s.ext⟩
      first
        | (rw [all_mk, show namE (.mk op nm nn args) = false from Bool.eq_false_iff.2 fun e => (nam_iff op nm nn args).1 e ⟨⟨by omega, by omega⟩, by simpa using h18⟩]; simp)
        | (rw [all_mk, alls_bad hk (by simpa using h28)]; simp)
        | (rw [all_mk, hal, Bool.and_true, show namE (.mk op nm nn args) = true from (nam_iff op nm nn args).2 (by rintro ⟨⟨a, b⟩, d⟩; first | omega | (simp [d] at h18))])
theorem frm_iff (op : UInt8) (nm : Str) (n : Int64) (args : List Ex) : frmE (.mk op nm n args) = true ↔ ¬ (¬ arR op.toNat = (args.length : Int)) ∧ ¬ (¬ ((op.toNat : Int) = 1) ∧ ¬ n.toInt = 0) ∧ ¬ n.toInt < 0 ∧ ¬ (((op.toNat : Int) < 5 ∨ 8 < (op.toNat : Int)) ∧ ¬ nm = []) := by
  rw [arR_ok, frmE, shape_nm]
  simp only [Bool.and_eq_true, Bool.or_eq_true, decide_eq_true_eq]
  have h1 : op = 1 ↔ (op.toNat : Int) = 1 := ⟨fun e => by rw [e]; rfl, fun e => UInt8.toNat_inj.1 (by show op.toNat = 1; omega)⟩
  cases ho : okOp op with
  | false =>
    simp only [Bool.false_eq_true, if_false, false_and, false_iff]
    intro h; omega
  | true =>
    simp only [if_true, true_and]
    by_cases e1 : op = 1
    · simp only [if_pos e1, decide_eq_true_eq]
      have := h1.1 e1
      constructor
      · rintro ⟨⟨a, b⟩, c⟩
        refine ⟨by omega, by omega, by omega, ?_⟩
        rintro ⟨d1, d2⟩
        rcases b with b | b
        · omega
        · exact d2 b
      · rintro ⟨a, b, c, d⟩
        refine ⟨⟨by omega, ?_⟩, by omega⟩
        by_cases hn : nm = []
        · exact .inr hn
        · exact absurd ⟨.inl (by omega), hn⟩ d
    · simp only [if_neg e1, decide_eq_true_eq]
      have : ¬ (op.toNat : Int) = 1 := fun e => e1 (h1.2 e)
      constructor
      · rintro ⟨⟨a, b⟩, c⟩
        refine ⟨by omega, by omega, by omega, ?_⟩
        rintro ⟨d1, d2⟩
        rcases b with b | b
        · omega
        · exact d2 b
      · rintro ⟨a, b, c, d⟩
        refine ⟨⟨by omega, ?_⟩, by omega⟩
        by_cases hn : nm = []
        · exact .inr hn
        · by_cases h5 : (op.toNat : Int) < 5 ∨ 8 < (op.toNat : Int)
          · exact absurd ⟨h5, hn⟩ d
          · exact .inl (by omega)
set_option maxRecDepth 100000 in
theorem exprForm_any (H : Hp) (e : Ex) : ∀ (cs : List Value) (w : World), Rep H (dEx .i64 e) cs → Agr H w →
    Calls Tryd.prog 27 #[.agg cs.toArray] w fun r w' => r = .returned (.bool (e.all frmE)) ∧ Ext w w' := by
  induction e using Ex.ind with | _ op nm nn args ih
  intro cs w h hA
  obtain ⟨p, c, rfl, hs, hnm⟩ := ex_open h
  have hcap := hs.cap
  skip
  refine Sx.enter (H := H) Tryd.func27 rfl Tryd.ntmps27 rfl hA ?_
  refine .sq <| .rg <| .bx rfl rfl rfl fun b1 => .a rfl rfl <| .nl <| .tN <| .sq <| .sq <| .fl (trip := [(_, _, _), (_, _, _), (_, _, _), (_, _, _), (_, _, _), (_, _, _), (_, _, _), (_, _, _), (_, _, _), (_, _, _), (_, _, _), (_, _, _), (_, _, _), (_, _, _), (_, _, _), (_, _, _), (_, _, _), (_, _, _), (_, _, _), (_, _, _), (_, _, _), (_, _, _), (_, _, _), (_, _, _), (_, _, _), (_, _, _), (_, _, _), (_, _, _), (_, _, _), (_, _, _), (_, _, _), (_, _, _), (_, _, _), (_, _, _), (_, _, _), (_, _, _)]) 36 [(0, 0), (1, 0), (2, 0), (3, 0), (4, 0), (5, 0), (6, 0), (7, 0), (8, 0), (9, 0), (10, 0), (11, 0), (12, 0), (13, 0), (14, 0), (15, 0), (16, 0), (17, 0), (18, 0), (19, 0), (20, 0), (21, 0), (22, 0), (23, 0), (24, 0), (25, 0), (26, 0), (27, 0), (28, 0), (29, 0), (30, 0), (31, 0), (32, 0), (33, 0), (34, 0), (35, 0)] (by kernel_rfl) (by kernel_rfl) rfl <|
    .yv (.fieldAddr rfl Fx.field26_0) rfl <| .yv (.load rfl Fx.agg3 (.head _) rfl) rfl <| .yv (.call Fx.call47 rfl (fun W s => arity_any H op.toNat W s.agr)) rfl <|
    .yv (.fieldAddr rfl Fx.field26_3) rfl <| .yv (.load rfl Fx.agg24 (.head _) rfl) rfl <| .yv (.lenSl Fx.sl24 rfl) rfl <| .yv (.neq rfl rfl) rfl <| .m rfl rfl <|
    .b2 (fun h12 => ?_) (fun h12 => ?_)
  · try simp only [decide_eq_true_eq] at h12
    refine .gF rfl rfl rfl rfl <| .gF rfl rfl rfl rfl <| .gF rfl rfl rfl rfl <| .gF rfl rfl rfl rfl <| .gU rfl rfl rfl <| .gU rfl rfl rfl <| .gU rfl rfl rfl <| .gF rfl rfl rfl rfl <|
      .yv (.pickT rfl rfl) rfl <| .m rfl rfl <| .gF rfl rfl rfl rfl <| .gF rfl rfl rfl rfl <| .gF rfl rfl rfl rfl <| .yv (.pickT rfl rfl) rfl <| .m rfl rfl <| .gF rfl rfl rfl rfl <|
      .gF rfl rfl rfl rfl <| .gF rfl rfl rfl rfl <| .gF rfl rfl rfl rfl <| .gU rfl rfl rfl <| .gU rfl rfl rfl <| .gU rfl rfl rfl <| .gF rfl rfl rfl rfl <| .gF rfl rfl rfl rfl <|
      .gU rfl rfl rfl <| .gU rfl rfl rfl <| .gU rfl rfl rfl <| .gF rfl rfl rfl rfl <| .fn (tl := [_]) rfl <| .yv (.pickT rfl rfl) rfl <| .nl <| .tN <| .cT rfl <| .sq <|
      .rg <| .a rfl rfl <| .nl <| .tN <| .rt <| .tR <| ?_
    refine Sx.ret1 (.inl rfl) rfl (.tmp rfl) fun W s => ⟨retB ?_, s.ext⟩
    first
      | (rw [all_mk, show frmE (.mk op nm nn args) = false from Bool.eq_false_iff.2 fun e => by rw [frm_iff] at e; first | (exact e.1 (by assumption)) | (exact e.2.1 ⟨by assumption, by assumption⟩) | (exact e.2.2.1 (by assumption)) | (exact e.2.2.2 ⟨by omega, by assumption⟩)]; simp)
      | (rw [all_mk, alls_bad hk (by simpa using h51)]; simp)
      | (rw [all_mk, hal, Bool.and_true, show frmE (.mk op nm nn args) = true by rw [frm_iff]; exact ⟨by assumption, by omega, by omega, by first | (rintro ⟨_, _⟩; omega) | (rintro ⟨_, _⟩; contradiction)⟩])
  · try simp only [decide_eq_false_iff_not] at h12
    refine .yg rfl rfl (.fieldAddr rfl Fx.field26_0) rfl <| .yg rfl rfl (.load rfl Fx.agg3 (.head _) rfl) rfl <| .yg rfl rfl (.neq rfl rfl) rfl <| .yg rfl rfl (.move rfl) rfl <|
      .b2 (fun h16 => ?_) (fun h16 => ?_)
    · try simp only [decide_eq_true_eq] at h16
      refine .yg rfl rfl (.fieldAddr rfl Fx.field26_2) rfl <| .yg rfl rfl (.load rfl Fx.agg2 (.head _) rfl) rfl <| .yg rfl rfl (.neq rfl rfl) rfl <| .yg rfl rfl (.pickT rfl rfl) rfl <|
        .yv (.pickF rfl rfl) rfl <| .m rfl rfl <| .b2 (fun h22 => ?_) (fun h22 => ?_)
      · try simp only [decide_eq_true_eq] at h22
        refine .gF rfl rfl rfl rfl <| .gF rfl rfl rfl rfl <| .gF rfl rfl rfl rfl <| .yv (.pickT rfl rfl) rfl <| .m rfl rfl <| .gF rfl rfl rfl rfl <| .gF rfl rfl rfl rfl <|
          .gF rfl rfl rfl rfl <| .gF rfl rfl rfl rfl <| .gU rfl rfl rfl <| .gU rfl rfl rfl <| .gU rfl rfl rfl <| .gF rfl rfl rfl rfl <| .gF rfl rfl rfl rfl <| .gU rfl rfl rfl <|
          .gU rfl rfl rfl <| .gU rfl rfl rfl <| .gF rfl rfl rfl rfl <| .fn (tl := [_]) rfl <| .yv (.pickT rfl rfl) rfl <| .nl <| .tN <| .cT rfl <| .sq <| .rg <| .a rfl rfl <|
          .nl <| .tN <| .rt <| .tR <| ?_
        refine Sx.ret1 (.inl rfl) rfl (.tmp rfl) fun W s => ⟨retB ?_, s.ext⟩
        first
          | (rw [all_mk, show frmE (.mk op nm nn args) = false from Bool.eq_false_iff.2 fun e => by rw [frm_iff] at e; first | (exact e.1 (by assumption)) | (exact e.2.1 ⟨by assumption, by assumption⟩) | (exact e.2.2.1 (by assumption)) | (exact e.2.2.2 ⟨by omega, by assumption⟩)]; simp)
          | (rw [all_mk, alls_bad hk (by simpa using h51)]; simp)
          | (rw [all_mk, hal, Bool.and_true, show frmE (.mk op nm nn args) = true by rw [frm_iff]; exact ⟨by assumption, by omega, by omega, by first | (rintro ⟨_, _⟩; omega) | (rintro ⟨_, _⟩; contradiction)⟩])
      · try simp only [decide_eq_false_iff_not] at h22
        refine .yg rfl rfl (.fieldAddr rfl Fx.field26_2) rfl <| .yg rfl rfl (.load rfl Fx.agg2 (.head _) rfl) rfl <| .yg rfl rfl (.lss rfl rfl) rfl <| .yv (.pickF rfl rfl) rfl <|
          .m rfl rfl <| .b2 (fun h27 => ?_) (fun h27 => ?_)
        · try simp only [decide_eq_true_eq] at h27
          refine .gF rfl rfl rfl rfl <| .gF rfl rfl rfl rfl <| .gF rfl rfl rfl rfl <| .gF rfl rfl rfl rfl <| .gU rfl rfl rfl <| .gU rfl rfl rfl <| .gU rfl rfl rfl <| .gF rfl rfl rfl rfl <|
            .gF rfl rfl rfl rfl <| .gU rfl rfl rfl <| .gU rfl rfl rfl <| .gU rfl rfl rfl <| .gF rfl rfl rfl rfl <| .fn (tl := [_]) rfl <| .yv (.pickT rfl rfl) rfl <| .nl <|
            .tN <| .cT rfl <| .sq <| .rg <| .a rfl rfl <| .nl <| .tN <| .rt <| .tR <| ?_
          refine Sx.ret1 (.inl rfl) rfl (.tmp rfl) fun W s => ⟨retB ?_, s.ext⟩
          first
            | (rw [all_mk, show frmE (.mk op nm nn args) = false from Bool.eq_false_iff.2 fun e => by rw [frm_iff] at e; first | (exact e.1 (by assumption)) | (exact e.2.1 ⟨by assumption, by assumption⟩) | (exact e.2.2.1 (by assumption)) | (exact e.2.2.2 ⟨by omega, by assumption⟩)]; simp)
            | (rw [all_mk, alls_bad hk (by simpa using h51)]; simp)
            | (rw [all_mk, hal, Bool.and_true, show frmE (.mk op nm nn args) = true by rw [frm_iff]; exact ⟨by assumption, by omega, by omega, by first | (rintro ⟨_, _⟩; omega) | (rintro ⟨_, _⟩; contradiction)⟩])
        · try simp only [decide_eq_false_iff_not] at h27
          refine .yg rfl rfl (.fieldAddr rfl Fx.field26_0) rfl <| .yg rfl rfl (.load rfl Fx.agg3 (.head _) rfl) rfl <| .yg rfl rfl (.lss rfl rfl) rfl <| .yg rfl rfl (.move rfl) rfl <|
            .b2 (fun h31 => ?_) (fun h31 => ?_)
          · try simp only [decide_eq_true_eq] at h31
            refine .gF rfl rfl rfl rfl <| .gF rfl rfl rfl rfl <| .gF rfl rfl rfl rfl <| .yg rfl rfl (.pickT rfl rfl) rfl <| .yg rfl rfl (.move rfl) rfl <| .yg rfl rfl (.fieldAddr rfl Fx.field26_1) rfl <|
              .yg rfl rfl (.load rfl Fx.agg9 (.head _) rfl) rfl <| .yg rfl rfl (.neS rfl rfl) rfl <| .yg rfl rfl (.pickT rfl rfl) rfl <| .fn (tl := [_]) rfl <| .yv (.pickF rfl rfl) rfl <|
              .nl <| .tN <| .cd rfl (fun h41 => ?_) (fun h41 => ?_)
            · try simp only [decide_eq_true_eq] at h41
              skip
              refine .sq <| .rg <| .a rfl rfl <| .nl <| .tN <| .rt <| .tR <| ?_
              refine Sx.ret1 (.inl rfl) rfl (.tmp rfl) fun W s => ⟨retB ?_, s.ext⟩
              first
                | (rw [all_mk, show frmE (.mk op nm nn args) = false from Bool.eq_false_iff.2 fun e => by rw [frm_iff] at e; first | (exact e.1 (by assumption)) | (exact e.2.1 ⟨by assumption, by assumption⟩) | (exact e.2.2.1 (by assumption)) | (exact e.2.2.2 ⟨by omega, by assumption⟩)]; simp)
                | (rw [all_mk, alls_bad hk (by simpa using h51)]; simp)
                | (rw [all_mk, hal, Bool.and_true, show frmE (.mk op nm nn args) = true by rw [frm_iff]; exact ⟨by assumption, by omega, by omega, by first | (rintro ⟨_, _⟩; omega) | (rintro ⟨_, _⟩; contradiction)⟩])
            · try simp only [decide_eq_false_iff_not] at h41
              skip
              refine .sk <| .tN <| .sq <| .sq <| .rg <| .yv (.fieldAddr rfl Fx.field26_3) rfl <| .yv (.load rfl Fx.agg24 (.head _) rfl) rfl <| .yv (.lenSl Fx.sl24 rfl) rfl <|
                .m rfl rfl <| .nl <| .tN <| .bk <| .lp (X := Nat) [(43, _), (44, _)] ⟨rfl, rfl, trivial⟩ [_] (fun k => [(45, .int .i64 (k : Nat))]) (fun k => H) (fun k => []) (fun k => k ≤ args.length ∧ Ex.alls frmE (args.take k) = true) (fun k => args.length - k) 0 (fun _ s => s) ⟨rfl, trivial⟩ ⟨by omega, rfl⟩ fun k hC => ?_
              obtain ⟨hk0, hal⟩ := hC
              refine .sq <| .rg <| .yv (.lss rfl rfl) rfl <| .nl <| .tN <| .sq <| .cd rfl (fun h46 => ?_) (fun h46 => ?_)
              · try simp only [decide_eq_true_eq] at h46
                have hk : k < args.length := by omega
                obtain ⟨bE, oE, cE, hpE, rE, lE, mE⟩ := hs.elem (map_at hk)
                cases hpE
                refine .sk <| .tN <| .sq <| .bk <| .sq <| .rg <| .yv (.indexSl Fx.sl24 rfl rfl rfl (by omega) (q := oE + k * 4) rfl) rfl <| .yv (.loadMW rfl Fx.agg26 mE lE) rfl <|
                  .al Fx.zero26 rfl fun b4 => .sV .head rfl rfl Fx.size26 lE rE.one rfl <| .nl <| .tN <| .sq <| .rg <| .yv (.loadW rfl Fx.agg26 (.head _) lE) rfl <| .yv (.call Fx.call27 rfl (fun W s => ih _ (List.getElem_mem hk) cE W rE s.agr)) rfl <|
                  .yv (.not rfl) rfl <| .nl <| .tN <| .cd rfl (fun h51 => ?_) (fun h51 => ?_)
                · skip
                  refine .sq <| .rg <| .a rfl rfl <| .nl <| .tN <| .rt <| .bR <| .tR <| .tR <| .bR <| .tR <| ?_
                  refine Sx.ret1 (.inl rfl) rfl (.tmp rfl) fun W s => ⟨retB ?_, s.ext⟩
                  first
                    | (rw [all_mk, show frmE (.mk op nm nn args) = false from Bool.eq_false_iff.2 fun e => by rw [frm_iff] at e; first | (exact e.1 (by assumption)) | (exact e.2.1 ⟨by assumption, by assumption⟩) | (exact e.2.2.1 (by assumption)) | (exact e.2.2.2 ⟨by omega, by assumption⟩)]; simp)
                    | (rw [all_mk, alls_bad hk (by simpa using h51)]; simp)
                    | (rw [all_mk, hal, Bool.and_true, show frmE (.mk op nm nn args) = true by rw [frm_iff]; exact ⟨by assumption, by omega, by omega, by first | (rintro ⟨_, _⟩; omega) | (rintro ⟨_, _⟩; contradiction)⟩])
                · skip
                  exact .sk <| .bN <| .tN <| .rg <| .yv (.add rfl rfl (w64 (by omega) (by omega))) rfl <| .m rfl rfl <| .nl <| .tN <| .ag (k + 1) ⟨rfl, trivial⟩ ⟨rfl, rfl, trivial⟩ (fun _ s => s.pick [1] [_] rfl rfl) ⟨by omega, by rw [alls_succ hk, hal]; simpa using h51⟩ (by omega)
              · try simp only [decide_eq_false_iff_not] at h46
                obtain rfl : k = args.length := by omega
                rw [List.take_length] at hal
                refine .ex <| .tE <| .tE <| .bE <| .tN <| .sq <| .rg <| .a rfl rfl <| .nl <| .tN <| .rt <| ?_
                refine Sx.ret1 (.inl rfl) rfl (.tmp rfl) fun W s => ⟨retB ?_, s.ext⟩
                first
                  | (rw [all_mk, show frmE (.mk op nm nn args) = false from Bool.eq_false_iff.2 fun e => by rw [frm_iff] at e; first | (exact e.1 (by assumption)) | (exact e.2.1 ⟨by assumption, by assumption⟩) | (exact e.2.2.1 (by assumption)) | (exact e.2.2.2 ⟨by omega, by assumption⟩)]; simp)
                  | (rw [all_mk, alls_bad hk (by simpa using h51)]; simp)
                  | (rw [all_mk, hal, Bool.and_true, show frmE (.mk op nm nn args) = true by rw [frm_iff]; exact ⟨by assumption, by omega, by omega, by first | (rintro ⟨_, _⟩; omega) | (rintro ⟨_, _⟩; contradiction)⟩])
          · try simp only [decide_eq_false_iff_not] at h31
            refine .yg rfl rfl (.fieldAddr rfl Fx.field26_0) rfl <| .yg rfl rfl (.load rfl Fx.agg3 (.head _) rfl) rfl <| .yg rfl rfl (.gtr rfl rfl) rfl <| .yg rfl rfl (.pickF rfl rfl) rfl <|
              .yg rfl rfl (.move rfl) rfl <| .b2 (fun h36 => ?_) (fun h36 => ?_)
            · try simp only [decide_eq_true_eq] at h36
              refine .yg rfl rfl (.fieldAddr rfl Fx.field26_1) rfl <| .yg rfl rfl (.load rfl Fx.agg9 (.head _) rfl) rfl <| .yg rfl rfl (.neS rfl rfl) rfl <| .yg rfl rfl (.pickT rfl rfl) rfl <|
                .fn (tl := [_]) rfl <| .yv (.pickF rfl rfl) rfl <| .nl <| .tN <| .cd rfl (fun h41 => ?_) (fun h41 => ?_)
              · try simp only [decide_eq_true_eq] at h41
                skip
                refine .sq <| .rg <| .a rfl rfl <| .nl <| .tN <| .rt <| .tR <| ?_
                refine Sx.ret1 (.inl rfl) rfl (.tmp rfl) fun W s => ⟨retB ?_, s.ext⟩
                first
                  | (rw [all_mk, show frmE (.mk op nm nn args) = false from Bool.eq_false_iff.2 fun e => by rw [frm_iff] at e; first | (exact e.1 (by assumption)) | (exact e.2.1 ⟨by assumption, by assumption⟩) | (exact e.2.2.1 (by assumption)) | (exact e.2.2.2 ⟨by omega, by assumption⟩)]; simp)
                  | (rw [all_mk, alls_bad hk (by simpa using h51)]; simp)
                  | (rw [all_mk, hal, Bool.and_true, show frmE (.mk op nm nn args) = true by rw [frm_iff]; exact ⟨by assumption, by omega, by omega, by first | (rintro ⟨_, _⟩; omega) | (rintro ⟨_, _⟩; contradiction)⟩])
              · try simp only [decide_eq_false_iff_not] at h41
                skip
                refine .sk <| .tN <| .sq <| .sq <| .rg <| .yv (.fieldAddr rfl Fx.field26_3) rfl <| .yv (.load rfl Fx.agg24 (.head _) rfl) rfl <| .yv (.lenSl Fx.sl24 rfl) rfl <|
                  .m rfl rfl <| .nl <| .tN <| .bk <| .lp (X := Nat) [(43, _), (44, _)] ⟨rfl, rfl, trivial⟩ [_] (fun k => [(45, .int .i64 (k : Nat))]) (fun k => H) (fun k => []) (fun k => k ≤ args.length ∧ Ex.alls frmE (args.take k) = true) (fun k => args.length - k) 0 (fun _ s => s) ⟨rfl, trivial⟩ ⟨by omega, rfl⟩ fun k hC => ?_
                obtain ⟨hk0, hal⟩ := hC
                refine .sq <| .rg <| .yv (.lss rfl rfl) rfl <| .nl <| .tN <| .sq <| .cd rfl (fun h46 => ?_) (fun h46 => ?_)
                · try simp only [decide_eq_true_eq] at h46
                  have hk : k < args.length := by omega
                  obtain ⟨bE, oE, cE, hpE, rE, lE, mE⟩ := hs.elem (map_at hk)
                  cases hpE
                  refine .sk <| .tN <| .sq <| .bk <| .sq <| .rg <| .yv (.indexSl Fx.sl24 rfl rfl rfl (by omega) (q := oE + k * 4) rfl) rfl <| .yv (.loadMW rfl Fx.agg26 mE lE) rfl <|
                    .al Fx.zero26 rfl fun b4 => .sV .head rfl rfl Fx.size26 lE rE.one rfl <| .nl <| .tN <| .sq <| .rg <| .yv (.loadW rfl Fx.agg26 (.head _) lE) rfl <| .yv (.call Fx.call27 rfl (fun W s => ih _ (List.getElem_mem hk) cE W rE s.agr)) rfl <|
                    .yv (.not rfl) rfl <| .nl <| .tN <| .cd rfl (fun h51 => ?_) (fun h51 => ?_)
                  · skip
                    refine .sq <| .rg <| .a rfl rfl <| .nl <| .tN <| .rt <| .bR <| .tR <| .tR <| .bR <| .tR <| ?_
                    refine Sx.ret1 (.inl rfl) rfl (.tmp rfl) fun W s => ⟨retB ?_, s.ext⟩
                    first
                      | (rw [all_mk, show frmE (.mk op nm nn args) = false from Bool.eq_false_iff.2 fun e => by rw [frm_iff] at e; first | (exact e.1 (by assumption)) | (exact e.2.1 ⟨by assumption, by assumption⟩) | (exact e.2.2.1 (by assumption)) | (exact e.2.2.2 ⟨by omega, by assumption⟩)]; simp)
                      | (rw [all_mk, alls_bad hk (by simpa using h51)]; simp)
                      | (rw [all_mk, hal, Bool.and_true, show frmE (.mk op nm nn args) = true by rw [frm_iff]; exact ⟨by assumption, by omega, by omega, by first | (rintro ⟨_, _⟩; omega) | (rintro ⟨_, _⟩; contradiction)⟩])
                  · skip
                    exact .sk <| .bN <| .tN <| .rg <| .yv (.add rfl rfl (w64 (by omega) (by omega))) rfl <| .m rfl rfl <| .nl <| .tN <| .ag (k + 1) ⟨rfl, trivial⟩ ⟨rfl, rfl, trivial⟩ (fun _ s => s.pick [1] [_] rfl rfl) ⟨by omega, by rw [alls_succ hk, hal]; simpa using h51⟩ (by omega)
                · try simp only [decide_eq_false_iff_not] at h46
                  obtain rfl : k = args.length := by omega
                  rw [List.take_length] at hal
                  refine .ex <| .tE <| .tE <| .bE <| .tN <| .sq <| .rg <| .a rfl rfl <| .nl <| .tN <| .rt <| ?_
                  refine Sx.ret1 (.inl rfl) rfl (.tmp rfl) fun W s => ⟨retB ?_, s.ext⟩
                  first
                    | (rw [all_mk, show frmE (.mk op nm nn args) = false from Bool.eq_false_iff.2 fun e => by rw [frm_iff] at e; first | (exact e.1 (by assumption)) | (exact e.2.1 ⟨by assumption, by assumption⟩) | (exact e.2.2.1 (by assumption)) | (exact e.2.2.2 ⟨by omega, by assumption⟩)]; simp)
                    | (rw [all_mk, alls_bad hk (by simpa using h51)]; simp)
                    | (rw [all_mk, hal, Bool.and_true, show frmE (.mk op nm nn args) = true by rw [frm_iff]; exact ⟨by assumption, by omega, by omega, by first | (rintro ⟨_, _⟩; omega) | (rintro ⟨_, _⟩; contradiction)⟩])
            · try simp only [decide_eq_false_iff_not] at h36
              refine .gF rfl rfl rfl rfl <| .gF rfl rfl rfl rfl <| .gF rfl rfl rfl rfl <| .yg rfl rfl (.pickF rfl rfl) rfl <| .fn (tl := [_]) rfl <| .yv (.pickF rfl rfl) rfl <|
                .nl <| .tN <| .cF rfl <| .sk <| .tN <| .sq <| .sq <| .rg <| .yv (.fieldAddr rfl Fx.field26_3) rfl <| .yv (.load rfl Fx.agg24 (.head _) rfl) rfl <| .yv (.lenSl Fx.sl24 rfl) rfl <|
                .m rfl rfl <| .nl <| .tN <| .bk <| .lp (X := Nat) [(43, _), (44, _)] ⟨rfl, rfl, trivial⟩ [_] (fun k => [(45, .int .i64 (k : Nat))]) (fun k => H) (fun k => []) (fun k => k ≤ args.length ∧ Ex.alls frmE (args.take k) = true) (fun k => args.length - k) 0 (fun _ s => s) ⟨rfl, trivial⟩ ⟨by omega, rfl⟩ fun k hC => ?_
              obtain ⟨hk0, hal⟩ := hC
              refine .sq <| .rg <| .yv (.lss rfl rfl) rfl <| .nl <| .tN <| .sq <| .cd rfl (fun h46 => ?_) (fun h46 => ?_)
              · try simp only [decide_eq_true_eq] at h46
                have hk : k < args.length := by omega
                obtain ⟨bE, oE, cE, hpE, rE, lE, mE⟩ := hs.elem (map_at hk)
                cases hpE
                refine .sk <| .tN <| .sq <| .bk <| .sq <| .rg <| .yv (.indexSl Fx.sl24 rfl rfl rfl (by omega) (q := oE + k * 4) rfl) rfl <| .yv (.loadMW rfl Fx.agg26 mE lE) rfl <|
                  .al Fx.zero26 rfl fun b4 => .sV .head rfl rfl Fx.size26 lE rE.one rfl <| .nl <| .tN <| .sq <| .rg <| .yv (.loadW rfl Fx.agg26 (.head _) lE) rfl <| .yv (.call Fx.call27 rfl (fun W s => ih _ (List.getElem_mem hk) cE W rE s.agr)) rfl <|
                  .yv (.not rfl) rfl <| .nl <| .tN <| .cd rfl (fun h51 => ?_) (fun h51 => ?_)
                · skip
                  refine .sq <| .rg <| .a rfl rfl <| .nl <| .tN <| .rt <| .bR <| .tR <| .tR <| .bR <| .tR <| ?_
                  refine Sx.ret1 (.inl rfl) rfl (.tmp rfl) fun W s => ⟨retB ?_, s.ext⟩
                  first
                    | (rw [all_mk, show frmE (.mk op nm nn args) = false from Bool.eq_false_iff.2 fun e => by rw [frm_iff] at e; first | (exact e.1 (by assumption)) | (exact e.2.1 ⟨by assumption, by assumption⟩) | (exact e.2.2.1 (by assumption)) | (exact e.2.2.2 ⟨by omega, by assumption⟩)]; simp)
                    | (rw [all_mk, alls_bad hk (by simpa using h51)]; simp)
                    | (rw [all_mk, hal, Bool.and_true, show frmE (.mk op nm nn args) = true by rw [frm_iff]; exact ⟨by assumption, by omega, by omega, by first | (rintro ⟨_, _⟩; omega) | (rintro ⟨_, _⟩; contradiction)⟩])
                · skip
                  exact .sk <| .bN <| .tN <| .rg <| .yv (.add rfl rfl (w64 (by omega) (by omega))) rfl <| .m rfl rfl <| .nl <| .tN <| .ag (k + 1) ⟨rfl, trivial⟩ ⟨rfl, rfl, trivial⟩ (fun _ s => s.pick [1] [_] rfl rfl) ⟨by omega, by rw [alls_succ hk, hal]; simpa using h51⟩ (by omega)
              · try simp only [decide_eq_false_iff_not] at h46
                obtain rfl : k = args.length := by omega
                rw [List.take_length] at hal
                refine .ex <| .tE <| .tE <| .bE <| .tN <| .sq <| .rg <| .a rfl rfl <| .nl <| .tN <| .rt <| ?_
                refine Sx.ret1 (.inl rfl) rfl (.tmp rfl) fun W s => ⟨retB ?_, s.ext⟩
                first
                  | (rw [all_mk, show frmE (.mk op nm nn args) = false from Bool.eq_false_iff.2 fun e => by rw [frm_iff] at e; first | (exact e.1 (by assumption)) | (exact e.2.1 ⟨by assumption, by assumption⟩) | (exact e.2.2.1 (by assumption)) | (exact e.2.2.2 ⟨by omega, by assumption⟩)]; simp)
                  | (rw [all_mk, alls_bad hk (by simpa using h51)]; simp)
                  | (rw [all_mk, hal, Bool.and_true, show frmE (.mk op nm nn args) = true by rw [frm_iff]; exact ⟨by assumption, by omega, by omega, by first | (rintro ⟨_, _⟩; omega) | (rintro ⟨_, _⟩; contradiction)⟩])
    · try simp only [decide_eq_false_iff_not] at h16
      refine .gF rfl rfl rfl rfl <| .gF rfl rfl rfl rfl <| .gF rfl rfl rfl rfl <| .yg rfl rfl (.pickF rfl rfl) rfl <| .yv (.pickF rfl rfl) rfl <| .m rfl rfl <| .yg rfl rfl (.fieldAddr rfl Fx.field26_2) rfl <|
        .yg rfl rfl (.load rfl Fx.agg2 (.head _) rfl) rfl <| .yg rfl rfl (.lss rfl rfl) rfl <| .yv (.pickF rfl rfl) rfl <| .m rfl rfl <| .b2 (fun h27 => ?_) (fun h27 => ?_)
      · try simp only [decide_eq_true_eq] at h27
        refine .gF rfl rfl rfl rfl <| .gF rfl rfl rfl rfl <| .gF rfl rfl rfl rfl <| .gF rfl rfl rfl rfl <| .gU rfl rfl rfl <| .gU rfl rfl rfl <| .gU rfl rfl rfl <| .gF rfl rfl rfl rfl <|
          .gF rfl rfl rfl rfl <| .gU rfl rfl rfl <| .gU rfl rfl rfl <| .gU rfl rfl rfl <| .gF rfl rfl rfl rfl <| .fn (tl := [_]) rfl <| .yv (.pickT rfl rfl) rfl <| .nl <|
          .tN <| .cT rfl <| .sq <| .rg <| .a rfl rfl <| .nl <| .tN <| .rt <| .tR <| ?_
        refine Sx.ret1 (.inl rfl) rfl (.tmp rfl) fun W s => ⟨retB ?_, s.ext⟩
        first
          | (rw [all_mk, show frmE (.mk op nm nn args) = false from Bool.eq_false_iff.2 fun e => by rw [frm_iff] at e; first | (exact e.1 (by assumption)) | (exact e.2.1 ⟨by assumption, by assumption⟩) | (exact e.2.2.1 (by assumption)) | (exact e.2.2.2 ⟨by omega, by assumption⟩)]; simp)
          | (rw [all_mk, alls_bad hk (by simpa using h51)]; simp)
          | (rw [all_mk, hal, Bool.and_true, show frmE (.mk op nm nn args) = true by rw [frm_iff]; exact ⟨by assumption, by omega, by omega, by first | (rintro ⟨_, _⟩; omega) | (rintro ⟨_, _⟩; contradiction)⟩])
      · try simp only [decide_eq_false_iff_not] at h27
        refine .yg rfl rfl (.fieldAddr rfl Fx.field26_0) rfl <| .yg rfl rfl (.load rfl Fx.agg3 (.head _) rfl) rfl <| .yg rfl rfl (.lss rfl rfl) rfl <| .yg rfl rfl (.move rfl) rfl <|
          .b2 (fun h31 => ?_) (fun h31 => ?_)
        · try simp only [decide_eq_true_eq] at h31
          refine .gF rfl rfl rfl rfl <| .gF rfl rfl rfl rfl <| .gF rfl rfl rfl rfl <| .yg rfl rfl (.pickT rfl rfl) rfl <| .yg rfl rfl (.move rfl) rfl <| .yg rfl rfl (.fieldAddr rfl Fx.field26_1) rfl <|
            .yg rfl rfl (.load rfl Fx.agg9 (.head _) rfl) rfl <| .yg rfl rfl (.neS rfl rfl) rfl <| .yg rfl rfl (.pickT rfl rfl) rfl <| .fn (tl := [_]) rfl <| .yv (.pickF rfl rfl) rfl <|
            .nl <| .tN <| .cd rfl (fun h41 => ?_) (fun h41 => ?_)
          · try simp only [decide_eq_true_eq] at h41
            skip
            refine .sq <| .rg <| .a rfl rfl <| .nl <| .tN <| .rt <| .tR <| ?_
            refine Sx.ret1 (.inl rfl) rfl (.tmp rfl) fun W s => ⟨retB ?_, s.ext⟩
            first
              | (rw [all_mk, show frmE (.mk op nm nn args) = false from Bool.eq_false_iff.2 fun e => by rw [frm_iff] at e; first | (exact e.1 (by assumption)) | (exact e.2.1 ⟨by assumption, by assumption⟩) | (exact e.2.2.1 (by assumption)) | (exact e.2.2.2 ⟨by omega, by assumption⟩)]; simp)
              | (rw [all_mk, alls_bad hk (by simpa using h51)]; simp)
              | (rw [all_mk, hal, Bool.and_true, show frmE (.mk op nm nn args) = true by rw [frm_iff]; exact ⟨by assumption, by omega, by omega, by first | (rintro ⟨_, _⟩; omega) | (rintro ⟨_, _⟩; contradiction)⟩])
          · try simp only [decide_eq_false_iff_not] at h41
            skip
            refine .sk <| .tN <| .sq <| .sq <| .rg <| .yv (.fieldAddr rfl Fx.field26_3) rfl <| .yv (.load rfl Fx.agg24 (.head _) rfl) rfl <| .yv (.lenSl Fx.sl24 rfl) rfl <|
              .m rfl rfl <| .nl <| .tN <| .bk <| .lp (X := Nat) [(43, _), (44, _)] ⟨rfl, rfl, trivial⟩ [_] (fun k => [(45, .int .i64 (k : Nat))]) (fun k => H) (fun k => []) (fun k => k ≤ args.length ∧ Ex.alls frmE (args.take k) = true) (fun k => args.length - k) 0 (fun _ s => s) ⟨rfl, trivial⟩ ⟨by omega, rfl⟩ fun k hC => ?_
            obtain ⟨hk0, hal⟩ := hC
            refine .sq <| .rg <| .yv (.lss rfl rfl) rfl <| .nl <| .tN <| .sq <| .cd rfl (fun h46 => ?_) (fun h46 => ?_)
            · try simp only [decide_eq_true_eq] at h46
              have hk : k < args.length := by omega
              obtain ⟨bE, oE, cE, hpE, rE, lE, mE⟩ := hs.elem (map_at hk)
              cases hpE
              refine .sk <| .tN <| .sq <| .bk <| .sq <| .rg <| .yv (.indexSl Fx.sl24 rfl rfl rfl (by omega) (q := oE + k * 4) rfl) rfl <| .yv (.loadMW rfl Fx.agg26 mE lE) rfl <|
                .al Fx.zero26 rfl fun b4 => .sV .head rfl rfl Fx.size26 lE rE.one rfl <| .nl <| .tN <| .sq <| .rg <| .yv (.loadW rfl Fx.agg26 (.head _) lE) rfl <| .yv (.call Fx.call27 rfl (fun W s => ih _ (List.getElem_mem hk) cE W rE s.agr)) rfl <|
                .yv (.not rfl) rfl <| .nl <| .tN <| .cd rfl (fun h51 => ?_) (fun h51 => ?_)
              · skip
                refine .sq <| .rg <| .a rfl rfl <| .nl <| .tN <| .rt <| .bR <| .tR <| .tR <| .bR <| .tR <| ?_
                refine Sx.ret1 (.inl rfl) rfl (.tmp rfl) fun W s => ⟨retB ?_, s.ext⟩
                first
                  | (rw [all_mk, show frmE (.mk op nm nn args) = false from Bool.eq_false_iff.2 fun e => by rw [frm_iff] at e; first | (exact e.1 (by assumption)) | (exact e.2.1 ⟨by assumption, by assumption⟩) | (exact e.2.2.1 (by assumption)) | (exact e.2.2.2 ⟨by omega, by assumption⟩)]; simp)
                  | (rw [all_mk, alls_bad hk (by simpa using h51)]; simp)
                  | (rw [all_mk, hal, Bool.and_true, show frmE (.mk op nm nn args) = true by rw [frm_iff]; exact ⟨by assumption, by omega, by omega, by first | (rintro ⟨_, _⟩; omega) | (rintro ⟨_, _⟩; contradiction)⟩])
              · skip
                exact .sk <| .bN <| .tN <| .rg <| .yv (.add rfl rfl (w64 (by omega) (by omega))) rfl <| .m rfl rfl <| .nl <| .tN <| .ag (k + 1) ⟨rfl, trivial⟩ ⟨rfl, rfl, trivial⟩ (fun _ s => s.pick [1] [_] rfl rfl) ⟨by omega, by rw [alls_succ hk, hal]; simpa using h51⟩ (by omega)
            · try simp only [decide_eq_false_iff_not] at h46
              obtain rfl : k = args.length := by omega
              rw [List.take_length] at hal
              refine .ex <| .tE <| .tE <| .bE <| .tN <| .sq <| .rg <| .a rfl rfl <| .nl <| .tN <| .rt <| ?_
              refine Sx.ret1 (.inl rfl) rfl (.tmp rfl) fun W s => ⟨retB ?_, s.ext⟩
              first
                | (rw [all_mk, show frmE (.mk op nm nn args) = false from Bool.eq_false_iff.2 fun e => by rw [frm_iff] at e; first | (exact e.1 (by assumption)) | (exact e.2.1 ⟨by assumption, by assumption⟩) | (exact e.2.2.1 (by assumption)) | (exact e.2.2.2 ⟨by omega, by assumption⟩)]; simp)
                | (rw [all_mk, alls_bad hk (by simpa using h51)]; simp)
                | (rw [all_mk, hal, Bool.and_true, show frmE (.mk op nm nn args) = true by rw [frm_iff]; exact ⟨by assumption, by omega, by omega, by first | (rintro ⟨_, _⟩; omega) | (rintro ⟨_, _⟩; contradiction)⟩])
        · try simp only [decide_eq_false_iff_not] at h31
          refine .yg rfl rfl (.fieldAddr rfl Fx.field26_0) rfl <| .yg rfl rfl (.load rfl Fx.agg3 (.head _) rfl) rfl <| .yg rfl rfl (.gtr rfl rfl) rfl <| .yg rfl rfl (.pickF rfl rfl) rfl <|
            .yg rfl rfl (.move rfl) rfl <| .b2 (fun h36 => ?_) (fun h36 => ?_)
          · try simp only [decide_eq_true_eq] at h36
            refine .yg rfl rfl (.fieldAddr rfl Fx.field26_1) rfl <| .yg rfl rfl (.load rfl Fx.agg9 (.head _) rfl) rfl <| .yg rfl rfl (.neS rfl rfl) rfl <| .yg rfl rfl (.pickT rfl rfl) rfl <|
              .fn (tl := [_]) rfl <| .yv (.pickF rfl rfl) rfl <| .nl <| .tN <| .cd rfl (fun h41 => ?_) (fun h41 => ?_)
            · try simp only [decide_eq_true_eq] at h41
              skip
              refine .sq <| .rg <| .a rfl rfl <| .nl <| .tN <| .rt <| .tR <| ?_
              refine Sx.ret1 (.inl rfl) rfl (.tmp rfl) fun W s => ⟨retB ?_, s.ext⟩
              first
                | (rw [all_mk, show frmE (.mk op nm nn args) = false from Bool.eq_false_iff.2 fun e => by rw [frm_iff] at e; first | (exact e.1 (by assumption)) | (exact e.2.1 ⟨by assumption, by assumption⟩) | (exact e.2.2.1 (by assumption)) | (exact e.2.2.2 ⟨by omega, by assumption⟩)]; simp)
                | (rw [all_mk, alls_bad hk (by simpa using h51)]; simp)
                | (rw [all_mk, hal, Bool.and_true, show frmE (.mk op nm nn args) = true by rw [frm_iff]; exact ⟨by assumption, by omega, by omega, by first | (rintro ⟨_, _⟩; omega) | (rintro ⟨_, _⟩; contradiction)⟩])
            · try simp only [decide_eq_false_iff_not] at h41
              skip
              refine .sk <| .tN <| .sq <| .sq <| .rg <| .yv (.fieldAddr rfl Fx.field26_3) rfl <| .yv (.load rfl Fx.agg24 (.head _) rfl) rfl <| .yv (.lenSl Fx.sl24 rfl) rfl <|
                .m rfl rfl <| .nl <| .tN <| .bk <| .lp (X := Nat) [(43, _), (44, _)] ⟨rfl, rfl, trivial⟩ [_] (fun k => [(45, .int .i64 (k : Nat))]) (fun k => H) (fun k => []) (fun k => k ≤ args.length ∧ Ex.alls frmE (args.take k) = true) (fun k => args.length - k) 0 (fun _ s => s) ⟨rfl, trivial⟩ ⟨by omega, rfl⟩ fun k hC => ?_
              obtain ⟨hk0, hal⟩ := hC
              refine .sq <| .rg <| .yv (.lss rfl rfl) rfl <| .nl <| .tN <| .sq <| .cd rfl (fun h46 => ?_) (fun h46 => ?_)
              · try simp only [decide_eq_true_eq] at h46
                have hk : k < args.length := by omega
                obtain ⟨bE, oE, cE, hpE, rE, lE, mE⟩ := hs.elem (map_at hk)
                cases hpE
                refine .sk <| .tN <| .sq <| .bk <| .sq <| .rg <| .yv (.indexSl Fx.sl24 rfl rfl rfl (by omega) (q := oE + k * 4) rfl) rfl <| .yv (.loadMW rfl Fx.agg26 mE lE) rfl <|
                  .al Fx.zero26 rfl fun b4 => .sV .head rfl rfl Fx.size26 lE rE.one rfl <| .nl <| .tN <| .sq <| .rg <| .yv (.loadW rfl Fx.agg26 (.head _) lE) rfl <| .yv (.call Fx.call27 rfl (fun W s => ih _ (List.getElem_mem hk) cE W rE s.agr)) rfl <|
                  .yv (.not rfl) rfl <| .nl <| .tN <| .cd rfl (fun h51 => ?_) (fun h51 => ?_)
                · skip
                  refine .sq <| .rg <| .a rfl rfl <| .nl <| .tN <| .rt <| .bR <| .tR <| .tR <| .bR <| .tR <| ?_
                  refine Sx.ret1 (.inl rfl) rfl (.tmp rfl) fun W s => ⟨retB ?_, s.ext⟩
                  first
                    | (rw [all_mk, show frmE (.mk op nm nn args) = false from Bool.eq_false_iff.2 fun e => by rw [frm_iff] at e; first | (exact e.1 (by assumption)) | (exact e.2.1 ⟨by assumption, by assumption⟩) | (exact e.2.2.1 (by assumption)) | (exact e.2.2.2 ⟨by omega, by assumption⟩)]; simp)
                    | (rw [all_mk, alls_bad hk (by simpa using h51)]; simp)
                    | (rw [all_mk, hal, Bool.and_true, show frmE (.mk op nm nn args) = true by rw [frm_iff]; exact ⟨by assumption, by omega, by omega, by first | (rintro ⟨_, _⟩; omega) | (rintro ⟨_, _⟩; contradiction)⟩])
                · skip
                  exact .sk <| .bN <| .tN <| .rg <| .yv (.add rfl rfl (w64 (by omega) (by omega))) rfl <| .m rfl rfl <| .nl <| .tN <| .ag (k + 1) ⟨rfl, trivial⟩ ⟨rfl, rfl, trivial⟩ (fun _ s => s.pick [1] [_] rfl rfl) ⟨by omega, by rw [alls_succ hk, hal]; simpa using h51⟩ (by omega)
              · try simp only [decide_eq_false_iff_not] at h46
                obtain rfl : k = args.length := by omega
                rw [List.take_length] at hal
                refine .ex <| .tE <| .tE <| .bE <| .tN <| .sq <| .rg <| .a rfl rfl <| .nl <| .tN <| .rt <| ?_
                refine Sx.ret1 (.inl rfl) rfl (.tmp rfl) fun W s => ⟨retB ?_, s.ext⟩
                first
                  | (rw [all_mk, show frmE (.mk op nm nn args) = false from Bool.eq_false_iff.2 fun e => by rw [frm_iff] at e; first | (exact e.1 (by assumption)) | (exact e.2.1 ⟨by assumption, by assumption⟩) | (exact e.2.2.1 (by assumption)) | (exact e.2.2.2 ⟨by omega, by assumption⟩)]; simp)
                  | (rw [all_mk, alls_bad hk (by simpa using h51)]; simp)
                  | (rw [all_mk, hal, Bool.and_true, show frmE (.mk op nm nn args) = true by rw [frm_iff]; exact ⟨by assumption, by omega, by omega, by first | (rintro ⟨_, _⟩; omega) | (rintro ⟨_, _⟩; contradiction)⟩])
          · try simp only [decide_eq_false_iff_not] at h36
            refine .gF rfl rfl rfl rfl <| .gF rfl rfl rfl rfl <| .gF rfl rfl rfl rfl <| .yg rfl rfl (.pickF rfl rfl) rfl <| .fn (tl := [_]) rfl <| .yv (.pickF rfl rfl) rfl <|
              .nl <| .tN <| .cF rfl <| .sk <| .tN <| .sq <| .sq <| .rg <| .yv (.fieldAddr rfl Fx.field26_3) rfl <| .yv (.load rfl Fx.agg24 (.head _) rfl) rfl <| .yv (.lenSl Fx.sl24 rfl) rfl <|
              .m rfl rfl <| .nl <| .tN <| .bk <| .lp (X := Nat) [(43, _), (44, _)] ⟨rfl, rfl, trivial⟩ [_] (fun k => [(45, .int .i64 (k : Nat))]) (fun k => H) (fun k => []) (fun k => k ≤ args.length ∧ Ex.alls frmE (args.take k) = true) (fun k => args.length - k) 0 (fun _ s => s) ⟨rfl, trivial⟩ ⟨by omega, rfl⟩ fun k hC => ?_
            obtain ⟨hk0, hal⟩ := hC
            refine .sq <| .rg <| .yv (.lss rfl rfl) rfl <| .nl <| .tN <| .sq <| .cd rfl (fun h46 => ?_) (fun h46 => ?_)
            · try simp only [decide_eq_true_eq] at h46
              have hk : k < args.length := by omega
              obtain ⟨bE, oE, cE, hpE, rE, lE, mE⟩ := hs.elem (map_at hk)
              cases hpE
              refine .sk <| .tN <| .sq <| .bk <| .sq <| .rg <| .yv (.indexSl Fx.sl24 rfl rfl rfl (by omega) (q := oE + k * 4) rfl) rfl <| .yv (.loadMW rfl Fx.agg26 mE lE) rfl <|
                .al Fx.zero26 rfl fun b4 => .sV .head rfl rfl Fx.size26 lE rE.one rfl <| .nl <| .tN <| .sq <| .rg <| .yv (.loadW rfl Fx.agg26 (.head _) lE) rfl <| .yv (.call Fx.call27 rfl (fun W s => ih _ (List.getElem_mem hk) cE W rE s.agr)) rfl <|
                .yv (.not rfl) rfl <| .nl <| .tN <| .cd rfl (fun h51 => ?_) (fun h51 => ?_)
              · skip
                refine .sq <| .rg <| .a rfl rfl <| .nl <| .tN <| .rt <| .bR <| .tR <| .tR <| .bR <| .tR <| ?_
                refine Sx.ret1 (.inl rfl) rfl (.tmp rfl) fun W s => ⟨retB ?_, s.ext⟩
                first
                  | (rw [all_mk, show frmE (.mk op nm nn args) = false from Bool.eq_false_iff.2 fun e => by rw [frm_iff] at e; first | (exact e.1 (by assumption)) | (exact e.2.1 ⟨by assumption, by assumption⟩) | (exact e.2.2.1 (by assumption)) | (exact e.2.2.2 ⟨by omega, by assumption⟩)]; simp)
                  | (rw [all_mk, alls_bad hk (by simpa using h51)]; simp)
                  | (rw [all_mk, hal, Bool.and_true, show frmE (.mk op nm nn args) = true by rw [frm_iff]; exact ⟨by assumption, by omega, by omega, by first | (rintro ⟨_, _⟩; omega) | (rintro ⟨_, _⟩; contradiction)⟩])
              · skip
                exact .sk <| .bN <| .tN <| .rg <| .yv (.add rfl rfl (w64 (by omega) (by omega))) rfl <| .m rfl rfl <| .nl <| .tN <| .ag (k + 1) ⟨rfl, trivial⟩ ⟨rfl, rfl, trivial⟩ (fun _ s => s.pick [1] [_] rfl rfl) ⟨by omega, by rw [alls_succ hk, hal]; simpa using h51⟩ (by omega)
            · try simp only [decide_eq_false_iff_not] at h46
              obtain rfl : k = args.length := by omega
              rw [List.take_length] at hal
              refine .ex <| .tE <| .tE <| .bE <| .tN <| .sq <| .rg <| .a rfl rfl <| .nl <| .tN <| .rt <| ?_
              refine Sx.ret1 (.inl rfl) rfl (.tmp rfl) fun W s => ⟨retB ?_, s.ext⟩
              first
                | (rw [all_mk, show frmE (.mk op nm nn args) = false from Bool.eq_false_iff.2 fun e => by rw [frm_iff] at e; first | (exact e.1 (by assumption)) | (exact e.2.1 ⟨by assumption, by assumption⟩) | (exact e.2.2.1 (by assumption)) | (exact e.2.2.2 ⟨by omega, by assumption⟩)]; simp)
                | (rw [all_mk, alls_bad hk (by simpa using h51)]; simp)
                | (rw [all_mk, hal, Bool.and_true, show frmE (.mk op nm nn args) = true by rw [frm_iff]; exact ⟨by assumption, by omega, by omega, by first | (rintro ⟨_, _⟩; omega) | (rintro ⟨_, _⟩; contradiction)⟩])
set_option maxRecDepth 100000 in
theorem checkExprR_any (H : Hp) (e : Ex) (cs : List Value) (h : Rep H (dEx .i64 e) cs) (he : e.depth ≤ 1000000) (w : World) (hA : Agr H w) :
    Calls Tryd.prog 9 #[.agg cs.toArray] w fun r w' => r = .returned (.int .i64 (checkE e : Nat)) ∧ Ext w w' := by
  refine Sx.enter (H := H) Tryd.func9 rfl Tryd.ntmps9 rfl hA ?_
  refine .sq <| .rg <| .bx rfl rfl rfl fun b1 => .a rfl rfl <| .nl <| .tN <| .sq <| .bk <| .sq <| .rg <| .yv (.loadW rfl Fx.agg26 (.head _) (ex_len h)) rfl <| .yv (.call Fx.call14 rfl (fun W s => rexprDepth_any _ H cs W h he s.agr)) rfl <|
    .yv (.gtr rfl rfl) rfl <| .a rfl rfl <| .nl <| .tN <| .cd rfl (fun h3 => ?_) (fun h3 => ?_)
  · try simp only [decide_eq_true_eq] at h3
    refine .sq <| .rg <| .a rfl rfl <| .nl <| .tN <| .rt <| .bR <| .tR <| ?_
    refine Sx.ret1 (.inl rfl) rfl (.tmp rfl) fun W s => ⟨?_, s.ext⟩
    first
      | (rw [checkE, if_pos (by omega)]; rfl)
      | (rw [checkE, if_neg (by omega), if_pos (by simpa using h7)]; rfl)
      | (rw [checkE, if_neg (by omega), if_neg (by simpa using h7), if_pos (by simpa using h11)]; rfl)
      | (rw [checkE, if_neg (by omega), if_neg (by simpa using h7), if_neg (by simpa using h11)]; rfl)
  · try simp only [decide_eq_false_iff_not] at h3
    refine .sq <| .rg <| .yv (.loadW rfl Fx.agg26 (.head _) (ex_len h)) rfl <| .yv (.call Fx.call26 rfl (fun W s => exprNames_any H e cs W h s.agr)) rfl <| .yv (.not rfl) rfl <|
      .a rfl rfl <| .nl <| .tN <| .cd rfl (fun h7 => ?_) (fun h7 => ?_)
    · skip
      refine .sq <| .rg <| .a rfl rfl <| .nl <| .tN <| .rt <| .bR <| .tR <| ?_
      refine Sx.ret1 (.inl rfl) rfl (.tmp rfl) fun W s => ⟨?_, s.ext⟩
      first
        | (rw [checkE, if_pos (by omega)]; rfl)
        | (rw [checkE, if_neg (by omega), if_pos (by simpa using h7)]; rfl)
        | (rw [checkE, if_neg (by omega), if_neg (by simpa using h7), if_pos (by simpa using h11)]; rfl)
        | (rw [checkE, if_neg (by omega), if_neg (by simpa using h7), if_neg (by simpa using h11)]; rfl)
    · skip
      refine .sq <| .rg <| .yv (.loadW rfl Fx.agg26 (.head _) (ex_len h)) rfl <| .yv (.call Fx.call27 rfl (fun W s => exprForm_any H e cs W h s.agr)) rfl <| .yv (.not rfl) rfl <|
        .a rfl rfl <| .nl <| .tN <| .cd rfl (fun h11 => ?_) (fun h11 => ?_)
      · skip
        refine .sq <| .rg <| .a rfl rfl <| .nl <| .tN <| .rt <| .bR <| .tR <| ?_
        refine Sx.ret1 (.inl rfl) rfl (.tmp rfl) fun W s => ⟨?_, s.ext⟩
        first
          | (rw [checkE, if_pos (by omega)]; rfl)
          | (rw [checkE, if_neg (by omega), if_pos (by simpa using h7)]; rfl)
          | (rw [checkE, if_neg (by omega), if_neg (by simpa using h7), if_pos (by simpa using h11)]; rfl)
          | (rw [checkE, if_neg (by omega), if_neg (by simpa using h7), if_neg (by simpa using h11)]; rfl)
      · skip
        refine .sk <| .bN <| .tN <| .sq <| .rg <| .a rfl rfl <| .nl <| .tN <| .rt <| ?_
        refine Sx.ret1 (.inl rfl) rfl (.tmp rfl) fun W s => ⟨?_, s.ext⟩
        first
          | (rw [checkE, if_pos (by omega)]; rfl)
          | (rw [checkE, if_neg (by omega), if_pos (by simpa using h7)]; rfl)
          | (rw [checkE, if_neg (by omega), if_neg (by simpa using h7), if_pos (by simpa using h11)]; rfl)
          | (rw [checkE, if_neg (by omega), if_neg (by simpa using h7), if_neg (by simpa using h11)]; rfl)
end Go.Proofs.YtmbiojpcidccjaaDoor
/- Facts on types and functions. -/
namespace Go.Proofs.YtmbiojpcidccjaaDoor
open Go.RowKit Go.Par Go.Sx
theorem Fx.call28 : callN Tryd.prog 28 = Bool.true := by kernel_rfl
theorem Fx.bsl56_13 (x0 : ByteArray) (x1 : ByteArray) (x2 : ByteArray) (x3 : ByteArray) (x4 : ByteArray) (x5 : ByteArray) (x6 : ByteArray) (x7 : ByteArray) (x8 : ByteArray) (x9 : ByteArray) (x10 : ByteArray) (x11 : ByteArray) (x12 : ByteArray) : bslN Tryd.prog 56 13 [(0, .string x0), (1, .string x1), (2, .string x2), (3, .string x3), (4, .string x4), (5, .string x5), (6, .string x6), (7, .string x7), (8, .string x8), (9, .string x9), (10, .string x10), (11, .string x11), (12, .string x12)] = some (9, [.string x0, .string x1, .string x2, .string x3, .string x4, .string x5, .string x6, .string x7, .string x8, .string x9, .string x10, .string x11, .string x12]) := by kernel_rfl
end Go.Proofs.YtmbiojpcidccjaaDoor
/- Contracts: number, Level, symbol of the specification. -/
namespace Go.Proofs.YtmbiojpcidccjaaDoor
open Go.RowKit Go.Par Go.Sx
theorem dec_big {n : Nat} (h : ¬ n < 10) : Lib.decDigits n = Lib.decDigits (n / 10) ++ Lib.decDigits (n % 10) := by
  rw [Lib.decDigits_one (Nat.mod_lt n (by omega))]
  conv => lhs; rw [Lib.decDigits, dif_neg h]
def digsT : Str := [48, 49, 50, 51, 52, 53, 54, 55, 56, 57]
theorem digs_one {n : Nat} (h : n < 10) : (digsT.take (n + 1)).drop n = Lib.decDigits n := by
  rw [Lib.decDigits_one h]
  have key : ∀ i ∈ List.range 10, (digsT.take (i + 1)).drop i = [UInt8.ofNat (48 + i)] := by decide
  exact key n (List.mem_range.2 h)
theorem dec_len {n : Nat} (h : n ≤ 9223372036854775807) : (Lib.decDigits n).length ≤ 21 := by
  have := Lib.itoa_length_le (n : Int) (by omega) (by omega)
  rwa [Lib.itoa, if_neg (by omega), Int.toNat_natCast] at this
def lvR (k : Nat) : Nat := if k = 23 then 1 else if k = 22 then 2 else if 16 ≤ k then 3 else if 14 ≤ k then 4 else if 11 ≤ k then 5 else if 9 ≤ k then 6 else 7
theorem lvR_ok {op : UInt8} (h : okOp op = true) : lvR op.toNat = (shapeOf op).lv := by
  have key : ∀ i ∈ List.range 256, okOp (UInt8.ofNat i) = true → lvR i = (shapeOf (UInt8.ofNat i)).lv := by decide +kernel
  have h2 := key op.toNat (List.mem_range.2 op.toNat_lt)
  rw [UInt8.ofNat_toNat] at h2
  exact h2 h
def symsR : List Str := [[42], [47], [37], [43], [45], [61, 61], [33, 61], [60], [60, 61], [62], [62, 61], [97, 110, 100], [111, 114]]
theorem sym_tx {op : UInt8} (h1 : 11 ≤ op.toNat) (h2 : op.toNat ≤ 23) : (shapeOf op).tx = [32] ++ symsR.getD (op.toNat - 11) [] ++ [32] := by
  have key : ∀ i ∈ List.range 256, 11 ≤ i → i ≤ 23 → (shapeOf (UInt8.ofNat i)).tx = [32] ++ symsR.getD (i - 11) [] ++ [32] := by decide +kernel
  have h := key op.toNat (List.mem_range.2 op.toNat_lt)
  rw [UInt8.ofNat_toNat] at h
  exact h h1 h2
set_option maxRecDepth 100000 in
theorem numberN_any (H : Hp) (n : Nat) : n ≤ 9223372036854775807 → ∀ (w : World), Agr H w → Calls Tryd.prog 28 #[.int .i64 (n : Nat)] w fun r w' => r = .returned (strV (Lib.decDigits n)) ∧ Ext w w' := by
  induction n using Nat.strongRecOn with | _ n ih
  intro hn w hA
  refine Sx.enter (H := H) Tryd.func28 rfl Tryd.ntmps28 rfl hA ?_
  refine .sq <| .rg <| .a rfl rfl <| .nl <| .tN <| .sq <| .sq <| .rg <| .m rfl rfl <| .yv (.lss rfl rfl) rfl <| .nl <| .tN <| .cd rfl (fun h4 => ?_) (fun h4 => ?_)
  · try simp only [decide_eq_true_eq] at h4
    exact absurd (by omega : False) id
  · try simp only [decide_eq_false_iff_not] at h4
    refine .sk <| .tN <| .sq <| .sq <| .rg <| .m rfl rfl <| .yv (.lss rfl rfl) rfl <| .nl <| .tN <| .cd rfl (fun h10 => ?_) (fun h10 => ?_)
    · try simp only [decide_eq_true_eq] at h10
      refine .sq <| .rg <| .m rfl rfl <| .m rfl rfl <| .yv (.add rfl rfl (c := ((n + 1 : Nat) : Int)) ((w64 (by omega) (by omega)).trans (by omega))) rfl <| .yv (.cast (.midS (l := digsT) Fx.str9 rfl rfl rfl (lo := n) (hi := n + 1) rfl rfl (by omega) (by show n + 1 ≤ 10; omega)) (by rw [digs_one (by omega)])) rfl <|
        .a rfl rfl <| .nl <| .tN <| .rt <| .tR <| ?_
      refine Sx.ret1 (.inl rfl) rfl (.tmp rfl) fun W s => ⟨?_, s.ext⟩
      first
        | (rfl)
        | (rw [dec_big (n := n) (by omega)]; rfl)
        | (rw [digs_one (by omega)])
    · try simp only [decide_eq_false_iff_not] at h10
      refine .sk <| .tN <| .sq <| .rg <| .m rfl rfl <| .yv (.quo rfl rfl (by decide) (c := ((n / 10 : Nat) : Int)) (by rw [Int.tdiv_eq_ediv_of_nonneg (by omega)]; exact (w64 (by omega) (by omega)).trans (by omega))) rfl <|
        .yv (.call Fx.call28 rfl (fun W s => ih (n / 10) (by omega) (by omega) W s.agr)) rfl <| .m rfl rfl <| .yv (.rem rfl rfl (by decide) (c := ((n % 10 : Nat) : Int)) (by rw [Int.tmod_eq_emod_of_nonneg (by omega)]; omega)) rfl <|
        .yv (.call Fx.call28 rfl (fun W s => ih (n % 10) (by omega) (by omega) W s.agr)) rfl <| .yv (.app rfl rfl (by have := dec_len (n := n / 10) (by omega); have := dec_len (n := n % 10) (by omega); omega)) rfl <|
        .a rfl rfl <| .nl <| .tN <| .rt <| ?_
      refine Sx.ret1 (.inl rfl) rfl (.tmp rfl) fun W s => ⟨?_, s.ext⟩
      first
        | (rfl)
        | (rw [dec_big (n := n) (by omega)]; rfl)
        | (rw [digs_one (by omega)])
theorem _root_.Go.Sx.Yl.neg64 {P : Program} {L : Sl} {H : Hp} {w0 : World} {bs : List Res} {d : Option Tmp} {ty : TypeId} {pos : String} {aft : Array Edge} {g : Option (Nat × Bool)} {x : Operand} {T : TypeId} {i c : Int} (hx : ev L x = some (.int .i64 i)) (hc : c = -i) (h1 : -9223372036854775808 ≤ c) (h2 : c ≤ 9223372036854775807) : Yl P L H w0 bs ⟨d, .unOp .neg T x, ty, pos, aft, g⟩ (.int .i64 c) := .of_run fun a W f _ => by
  subst hc
  have hw : IntKind.i64.wrap (-i) = -i := w64 h1 h2
  unfold execOp
  simp [f x _ hx, Op.unary, Op.intArith, hw, Result.andThen]
set_option maxRecDepth 100000 in
theorem number_any (H : Hp) (n : Int) (h1 : -9223372036854775808 < n) (h2 : n ≤ 9223372036854775807) (w : World) (hA : Agr H w) : Calls Tryd.prog 28 #[.int .i64 n] w fun r w' => r = .returned (strV (Lib.itoa n)) ∧ Ext w w' := by
  by_cases h0 : 0 ≤ n
  · have h := numberN_any H n.toNat (by omega) w hA
    rw [show ((n.toNat : Nat) : Int) = n by omega] at h
    rw [Lib.itoa, if_neg (by omega)]
    exact h
  refine Sx.enter (H := H) Tryd.func28 rfl Tryd.ntmps28 rfl hA ?_
  refine .sq <| .rg <| .a rfl rfl <| .nl <| .tN <| .sq <| .sq <| .rg <| .m rfl rfl <| .yv (.lss rfl rfl) rfl <| .nl <| .tN <| .cd rfl (fun h4 => ?_) (fun h4 => ?_)
  · try simp only [decide_eq_true_eq] at h4
    refine .sq <| .rg <| .m rfl rfl <| .yv (.neg64 rfl (c := ((n.natAbs : Nat) : Int)) (by omega) (by omega) (by omega)) rfl <| .yv (.call Fx.call28 rfl (fun W s => numberN_any H n.natAbs (by omega) W s.agr)) rfl <|
      .yv (.app rfl rfl (by have := dec_len (n := n.natAbs) (by omega); simp only [List.length_cons, List.length_nil]; omega)) rfl <| .a rfl rfl <| .nl <| .tN <| .rt <|
      .tR <| ?_
    refine Sx.ret1 (.inl rfl) rfl (.tmp rfl) fun W s => ⟨?_, s.ext⟩
    first
      | (rw [Lib.itoa, if_pos (by omega)]; rfl)
  · try simp only [decide_eq_false_iff_not] at h4
    exact absurd (by omega : False) id
set_option maxRecDepth 100000 in
theorem level_any (H : Hp) (k : Nat) (w : World) (hA : Agr H w) : Calls Tryd.prog 30 #[.int .i64 (k : Nat)] w fun r w' => r = .returned (.int .i64 (lvR k : Nat)) ∧ Ext w w' := by
  refine Sx.enter (H := H) Tryd.func30 rfl Tryd.ntmps30 rfl hA ?_
  refine .sq <| .rg <| .a rfl rfl <| .nl <| .tN <| .sq <| .bk <| .sq <| .rg <| .m rfl rfl <| .yv (.eql rfl rfl) rfl <| .a rfl rfl <| .nl <| .tN <| .cd rfl (fun h3 => ?_) (fun h3 => ?_)
  · try simp only [decide_eq_true_eq] at h3
    refine .sq <| .rg <| .a rfl rfl <| .nl <| .tN <| .rt <| .bR <| .tR <| ?_
    refine Sx.ret1 (.inl rfl) rfl (.tmp rfl) fun W s => ⟨?_, s.ext⟩
    first
      | (rw [lvR]; (try simp only [decide_eq_true_eq, decide_eq_false_iff_not] at *); first | (rw [if_pos (by omega)]; rfl) | (rw [if_neg (by omega), if_pos (by omega)]; rfl) | (rw [if_neg (by omega), if_neg (by omega), if_pos (by omega)]; rfl) | (rw [if_neg (by omega), if_neg (by omega), if_neg (by omega), if_pos (by omega)]; rfl) | (rw [if_neg (by omega), if_neg (by omega), if_neg (by omega), if_neg (by omega), if_pos (by omega)]; rfl) | (rw [if_neg (by omega), if_neg (by omega), if_neg (by omega), if_neg (by omega), if_neg (by omega), if_pos (by omega)]; rfl) | (rw [if_neg (by omega), if_neg (by omega), if_neg (by omega), if_neg (by omega), if_neg (by omega), if_neg (by omega)]; rfl))
  · try simp only [decide_eq_false_iff_not] at h3
    refine .sq <| .rg <| .m rfl rfl <| .yv (.eql rfl rfl) rfl <| .a rfl rfl <| .nl <| .tN <| .cd rfl (fun h6 => ?_) (fun h6 => ?_)
    · try simp only [decide_eq_true_eq] at h6
      refine .sq <| .rg <| .a rfl rfl <| .nl <| .tN <| .rt <| .bR <| .tR <| ?_
      refine Sx.ret1 (.inl rfl) rfl (.tmp rfl) fun W s => ⟨?_, s.ext⟩
      first
        | (rw [lvR]; (try simp only [decide_eq_true_eq, decide_eq_false_iff_not] at *); first | (rw [if_pos (by omega)]; rfl) | (rw [if_neg (by omega), if_pos (by omega)]; rfl) | (rw [if_neg (by omega), if_neg (by omega), if_pos (by omega)]; rfl) | (rw [if_neg (by omega), if_neg (by omega), if_neg (by omega), if_pos (by omega)]; rfl) | (rw [if_neg (by omega), if_neg (by omega), if_neg (by omega), if_neg (by omega), if_pos (by omega)]; rfl) | (rw [if_neg (by omega), if_neg (by omega), if_neg (by omega), if_neg (by omega), if_neg (by omega), if_pos (by omega)]; rfl) | (rw [if_neg (by omega), if_neg (by omega), if_neg (by omega), if_neg (by omega), if_neg (by omega), if_neg (by omega)]; rfl))
    · try simp only [decide_eq_false_iff_not] at h6
      refine .sq <| .rg <| .m rfl rfl <| .yv (.geq rfl rfl) rfl <| .a rfl rfl <| .nl <| .tN <| .cd rfl (fun h9 => ?_) (fun h9 => ?_)
      · try simp only [decide_eq_true_eq] at h9
        refine .sq <| .rg <| .a rfl rfl <| .nl <| .tN <| .rt <| .bR <| .tR <| ?_
        refine Sx.ret1 (.inl rfl) rfl (.tmp rfl) fun W s => ⟨?_, s.ext⟩
        first
          | (rw [lvR]; (try simp only [decide_eq_true_eq, decide_eq_false_iff_not] at *); first | (rw [if_pos (by omega)]; rfl) | (rw [if_neg (by omega), if_pos (by omega)]; rfl) | (rw [if_neg (by omega), if_neg (by omega), if_pos (by omega)]; rfl) | (rw [if_neg (by omega), if_neg (by omega), if_neg (by omega), if_pos (by omega)]; rfl) | (rw [if_neg (by omega), if_neg (by omega), if_neg (by omega), if_neg (by omega), if_pos (by omega)]; rfl) | (rw [if_neg (by omega), if_neg (by omega), if_neg (by omega), if_neg (by omega), if_neg (by omega), if_pos (by omega)]; rfl) | (rw [if_neg (by omega), if_neg (by omega), if_neg (by omega), if_neg (by omega), if_neg (by omega), if_neg (by omega)]; rfl))
      · try simp only [decide_eq_false_iff_not] at h9
        refine .sq <| .rg <| .m rfl rfl <| .yv (.geq rfl rfl) rfl <| .a rfl rfl <| .nl <| .tN <| .cd rfl (fun h12 => ?_) (fun h12 => ?_)
        · try simp only [decide_eq_true_eq] at h12
          refine .sq <| .rg <| .a rfl rfl <| .nl <| .tN <| .rt <| .bR <| .tR <| ?_
          refine Sx.ret1 (.inl rfl) rfl (.tmp rfl) fun W s => ⟨?_, s.ext⟩
          first
            | (rw [lvR]; (try simp only [decide_eq_true_eq, decide_eq_false_iff_not] at *); first | (rw [if_pos (by omega)]; rfl) | (rw [if_neg (by omega), if_pos (by omega)]; rfl) | (rw [if_neg (by omega), if_neg (by omega), if_pos (by omega)]; rfl) | (rw [if_neg (by omega), if_neg (by omega), if_neg (by omega), if_pos (by omega)]; rfl) | (rw [if_neg (by omega), if_neg (by omega), if_neg (by omega), if_neg (by omega), if_pos (by omega)]; rfl) | (rw [if_neg (by omega), if_neg (by omega), if_neg (by omega), if_neg (by omega), if_neg (by omega), if_pos (by omega)]; rfl) | (rw [if_neg (by omega), if_neg (by omega), if_neg (by omega), if_neg (by omega), if_neg (by omega), if_neg (by omega)]; rfl))
        · try simp only [decide_eq_false_iff_not] at h12
          refine .sq <| .rg <| .m rfl rfl <| .yv (.geq rfl rfl) rfl <| .a rfl rfl <| .nl <| .tN <| .cd rfl (fun h15 => ?_) (fun h15 => ?_)
          · try simp only [decide_eq_true_eq] at h15
            refine .sq <| .rg <| .a rfl rfl <| .nl <| .tN <| .rt <| .bR <| .tR <| ?_
            refine Sx.ret1 (.inl rfl) rfl (.tmp rfl) fun W s => ⟨?_, s.ext⟩
            first
              | (rw [lvR]; (try simp only [decide_eq_true_eq, decide_eq_false_iff_not] at *); first | (rw [if_pos (by omega)]; rfl) | (rw [if_neg (by omega), if_pos (by omega)]; rfl) | (rw [if_neg (by omega), if_neg (by omega), if_pos (by omega)]; rfl) | (rw [if_neg (by omega), if_neg (by omega), if_neg (by omega), if_pos (by omega)]; rfl) | (rw [if_neg (by omega), if_neg (by omega), if_neg (by omega), if_neg (by omega), if_pos (by omega)]; rfl) | (rw [if_neg (by omega), if_neg (by omega), if_neg (by omega), if_neg (by omega), if_neg (by omega), if_pos (by omega)]; rfl) | (rw [if_neg (by omega), if_neg (by omega), if_neg (by omega), if_neg (by omega), if_neg (by omega), if_neg (by omega)]; rfl))
          · try simp only [decide_eq_false_iff_not] at h15
            refine .sq <| .rg <| .m rfl rfl <| .yv (.geq rfl rfl) rfl <| .a rfl rfl <| .nl <| .tN <| .cd rfl (fun h18 => ?_) (fun h18 => ?_)
            · try simp only [decide_eq_true_eq] at h18
              refine .sq <| .rg <| .a rfl rfl <| .nl <| .tN <| .rt <| .bR <| .tR <| ?_
              refine Sx.ret1 (.inl rfl) rfl (.tmp rfl) fun W s => ⟨?_, s.ext⟩
              first
                | (rw [lvR]; (try simp only [decide_eq_true_eq, decide_eq_false_iff_not] at *); first | (rw [if_pos (by omega)]; rfl) | (rw [if_neg (by omega), if_pos (by omega)]; rfl) | (rw [if_neg (by omega), if_neg (by omega), if_pos (by omega)]; rfl) | (rw [if_neg (by omega), if_neg (by omega), if_neg (by omega), if_pos (by omega)]; rfl) | (rw [if_neg (by omega), if_neg (by omega), if_neg (by omega), if_neg (by omega), if_pos (by omega)]; rfl) | (rw [if_neg (by omega), if_neg (by omega), if_neg (by omega), if_neg (by omega), if_neg (by omega), if_pos (by omega)]; rfl) | (rw [if_neg (by omega), if_neg (by omega), if_neg (by omega), if_neg (by omega), if_neg (by omega), if_neg (by omega)]; rfl))
            · try simp only [decide_eq_false_iff_not] at h18
              refine .sk <| .bN <| .tN <| .sq <| .rg <| .a rfl rfl <| .nl <| .tN <| .rt <| ?_
              refine Sx.ret1 (.inl rfl) rfl (.tmp rfl) fun W s => ⟨?_, s.ext⟩
              first
                | (rw [lvR]; (try simp only [decide_eq_true_eq, decide_eq_false_iff_not] at *); first | (rw [if_pos (by omega)]; rfl) | (rw [if_neg (by omega), if_pos (by omega)]; rfl) | (rw [if_neg (by omega), if_neg (by omega), if_pos (by omega)]; rfl) | (rw [if_neg (by omega), if_neg (by omega), if_neg (by omega), if_pos (by omega)]; rfl) | (rw [if_neg (by omega), if_neg (by omega), if_neg (by omega), if_neg (by omega), if_pos (by omega)]; rfl) | (rw [if_neg (by omega), if_neg (by omega), if_neg (by omega), if_neg (by omega), if_neg (by omega), if_pos (by omega)]; rfl) | (rw [if_neg (by omega), if_neg (by omega), if_neg (by omega), if_neg (by omega), if_neg (by omega), if_neg (by omega)]; rfl))
set_option maxRecDepth 100000 in
theorem symbol_any (H : Hp) (k : Nat) (h1 : 11 ≤ k) (h2 : k ≤ 23) (w : World) (hA : Agr H w) : Calls Tryd.prog 31 #[.int .i64 (k : Nat)] w fun r w' => r = .returned (strV (symsR.getD (k - 11) [])) ∧ Ext w w' := by
  refine Sx.enter (H := H) Tryd.func31 rfl Tryd.ntmps31 rfl hA ?_
  refine .sq <| .rg <| .a rfl rfl <| .nl <| .tN <| .sq <| .rg <| .bl rfl (Fx.bsl56_13 _ _ _ _ _ _ _ _ _ _ _ _ _) rfl fun b3 => .m rfl rfl <| .yv (.sub rfl rfl (c := ((k - 11 : Nat) : Int)) ((w64 (by omega) (by omega)).trans (by omega))) rfl <|
    .yv (.indexSl Fx.sl56 rfl rfl (i := k - 11) rfl (by omega) (q := k - 11) (by omega)) rfl <| .yv (.load (v := strV (symsR.getD (k - 11) [])) rfl Fx.agg9 (.head _) (strs_at (es := symsR) (by show k - 11 < 13; omega))) rfl <|
    .a rfl rfl <| .nl <| .tN <| .rt <| ?_
  exact Sx.ret1 (.inl rfl) rfl (.tmp rfl) fun W s => ⟨rfl, s.ext⟩
end Go.Proofs.YtmbiojpcidccjaaDoor
/- Facts on types and functions. -/
namespace Go.Proofs.YtmbiojpcidccjaaDoor
open Go.RowKit Go.Par Go.Sx
theorem Fx.call10 : callN Tryd.prog 10 = Bool.true := by kernel_rfl
theorem Fx.call29 : callN Tryd.prog 29 = Bool.true := by kernel_rfl
theorem Fx.call30 : callN Tryd.prog 30 = Bool.true := by kernel_rfl
theorem Fx.call31 : callN Tryd.prog 31 = Bool.true := by kernel_rfl
end Go.Proofs.YtmbiojpcidccjaaDoor
/- Contracts: PrintExpr of the specification. -/
namespace Go.Proofs.YtmbiojpcidccjaaDoor
open Go.RowKit Go.Par Go.Sx
/-- The contract of PrintExpr of the specification at an expression. -/
def TextR (H : Hp) (e : Ex) : Prop := ∀ (cs : List Value) (w : World), Rep H (dEx .i64 e) cs → Ex.all frmE e = true → e.text.length ≤ 1000000000 → Agr H w →
  Calls Tryd.prog 10 #[.agg cs.toArray] w fun r w' => r = .returned (strV e.text) ∧ Ext w w'
set_option maxRecDepth 100000 in
theorem operandR_any (H : Hp) (e : Ex) (ht : TextR H e) (cs : List Value) (h : Rep H (dEx .i64 e) cs) (hf : Ex.all frmE e = true) (hl : e.text.length ≤ 1000000000) (k : Nat) (w : World) (hA : Agr H w) :
    Calls Tryd.prog 29 #[.agg cs.toArray, .int .i64 (k : Nat)] w fun r w' => r = .returned (strV (opT (k + 1) ((shapeOf e.op).lv, e.text))) ∧ Ext w w' := by
  obtain ⟨op, nm, nn, args⟩ := e
  obtain ⟨p, c, rfl, hs, hnm⟩ := ex_open h
  have hlv := lvR_ok (op := op) (by have := hf; rw [all_mk, Bool.and_eq_true] at this; have := this.1; simp only [frmE, Bool.and_eq_true] at this; exact this.1.1.1)
  refine Sx.enter (H := H) Tryd.func29 rfl Tryd.ntmps29 rfl hA ?_
  refine .sq <| .rg <| .bx rfl rfl rfl fun b2 => .a rfl rfl <| .nl <| .tN <| .sq <| .sq <| .rg <| .yv (.fieldAddr rfl Fx.field26_0) rfl <| .yv (.load rfl Fx.agg3 (.head _) rfl) rfl <|
    .yv (.cast (.call Fx.call30 rfl (fun W s => level_any H op.toNat W s.agr)) (by rw [hlv])) rfl <| .m rfl rfl <| .yv (.leq rfl rfl) rfl <| .nl <| .tN <| .cd rfl (fun h9 => ?_) (fun h9 => ?_)
  · try simp only [decide_eq_true_eq] at h9
    refine .sq <| .rg <| .yv (.loadW rfl Fx.agg26 (.head _) rfl) rfl <| .yv (.call Fx.call10 rfl (fun W s => ht _ W h hf hl s.agr)) rfl <| .yv (.app rfl rfl (by (try simp only [List.length_append, List.length_cons, List.length_nil]); omega)) rfl <|
      .yv (.app rfl rfl (by (try simp only [List.length_append, List.length_cons, List.length_nil]); omega)) rfl <| .a rfl rfl <| .nl <| .tN <| .rt <| .tR <| ?_
    refine Sx.ret1 (.inl rfl) rfl (.tmp rfl) fun W s => ⟨?_, s.ext⟩
    first
      | (rw [opT, if_pos (by show (shapeOf op).lv < k + 1; omega)] <;> rfl)
      | (rw [opT, if_neg (by show ¬ (shapeOf op).lv < k + 1; omega)] <;> rfl)
  · try simp only [decide_eq_false_iff_not] at h9
    refine .sk <| .tN <| .sq <| .rg <| .yv (.loadW rfl Fx.agg26 (.head _) rfl) rfl <| .yv (.call Fx.call10 rfl (fun W s => ht _ W h hf hl s.agr)) rfl <| .a rfl rfl <|
      .nl <| .tN <| .rt <| ?_
    refine Sx.ret1 (.inl rfl) rfl (.tmp rfl) fun W s => ⟨?_, s.ext⟩
    first
      | (rw [opT, if_pos (by show (shapeOf op).lv < k + 1; omega)] <;> rfl)
      | (rw [opT, if_neg (by show ¬ (shapeOf op).lv < k + 1; omega)] <;> rfl)
theorem operandRm_any (H : Hp) (e : Ex) (ht : TextR H e) (cs : List Value) (h : Rep H (dEx .i64 e) cs) (hf : Ex.all frmE e = true) (hl : e.text.length ≤ 1000000000) (k m : Nat) (hk : k + 1 = m) (w : World) (hA : Agr H w) :
    Calls Tryd.prog 29 #[.agg cs.toArray, .int .i64 (k : Nat)] w fun r w' => r = .returned (strV (opT m ((shapeOf e.op).lv, e.text))) ∧ Ext w w' := by
  subst hk
  exact operandR_any H e ht cs h hf hl k w hA
theorem operandR6_any (H : Hp) (e : Ex) (ht : TextR H e) (cs : List Value) (h : Rep H (dEx .i64 e) cs) (hf : Ex.all frmE e = true) (hl : e.text.length ≤ 1000000000) (w : World) (hA : Agr H w) :
    Calls Tryd.prog 29 #[.agg cs.toArray, .int .i64 5] w fun r w' => r = .returned (strV (opT 6 ((shapeOf e.op).lv, e.text))) ∧ Ext w w' := operandR_any H e ht cs h hf hl 5 w hA
theorem txt_k6 {nm : Str} {n : Int64} {ls : List (Nat × Str)} : txt 6 nm n ls = nm ++ ([91] : Str) ++ (ls.getD 0 (0, [])).2 ++ ([93] : Str) := by rw [txt, if_neg (by decide), if_neg (by decide), if_pos (by decide), show (shapeOf 6).tx = [] from rfl, List.nil_append]
theorem txt_k7 {nm : Str} {n : Int64} {ls : List (Nat × Str)} : txt 7 nm n ls = ([104, 97, 115, 32] : Str) ++ nm ++ ([91] : Str) ++ (ls.getD 0 (0, [])).2 ++ ([93] : Str) := by rw [txt, if_neg (by decide), if_neg (by decide), if_pos (by decide), show (shapeOf 7).tx = [104, 97, 115, 32] from rfl]
theorem txt_k9 {nm : Str} {n : Int64} {ls : List (Nat × Str)} : txt 9 nm n ls = ([45] : Str) ++ opT 6 (ls.getD 0 (0, [])) := by rw [txt, if_neg (by decide), if_neg (by decide), if_neg (by decide), if_pos (by decide), show (shapeOf 9).tx = [45] from rfl, show (shapeOf 9).lv = 6 from rfl]
theorem txt_k10 {nm : Str} {n : Int64} {ls : List (Nat × Str)} : txt 10 nm n ls = ([110, 111, 116, 32] : Str) ++ opT 6 (ls.getD 0 (0, [])) := by rw [txt, if_neg (by decide), if_neg (by decide), if_neg (by decide), if_pos (by decide), show (shapeOf 10).tx = [110, 111, 116, 32] from rfl, show (shapeOf 10).lv = 6 from rfl]
theorem shape_two {op : UInt8} (h1 : 11 ≤ op.toNat) (h2 : op.toNat ≤ 23) : (shapeOf op).n = 2 := by
  have key : ∀ i ∈ List.range 256, 11 ≤ i → i ≤ 23 → (shapeOf (UInt8.ofNat i)).n = 2 := by decide +kernel
  have h := key op.toNat (List.mem_range.2 op.toNat_lt)
  rw [UInt8.ofNat_toNat] at h
  exact h h1 h2
theorem shape_lv1 {op : UInt8} (h1 : 11 ≤ op.toNat) (h2 : op.toNat ≤ 23) : 1 ≤ (shapeOf op).lv ∧ (shapeOf op).lv ≤ 5 := by
  have key : ∀ i ∈ List.range 256, 11 ≤ i → i ≤ 23 → 1 ≤ (shapeOf (UInt8.ofNat i)).lv ∧ (shapeOf (UInt8.ofNat i)).lv ≤ 5 := by decide +kernel
  have h := key op.toNat (List.mem_range.2 op.toNat_lt)
  rw [UInt8.ofNat_toNat] at h
  exact h h1 h2
theorem lft_back {l : Nat} (h : 1 ≤ l ∧ l ≤ 5) : lftT l - 1 + 1 = lftT l := by unfold lftT; split <;> omega
theorem text_two {op : UInt8} {nm : Str} {n : Int64} {args : List Ex} (h1 : 11 ≤ op.toNat) (h2 : op.toNat ≤ 23) (k0 : 0 < args.length) (k1 : 1 < args.length) : Ex.text (.mk op nm n args) =
    opT (lftT (shapeOf op).lv) ((shapeOf args[0].op).lv, args[0].text) ++ ([32] : Str) ++ symsR.getD (op.toNat - 11) [] ++ ([32] : Str) ++ opT ((shapeOf op).lv + 1) ((shapeOf args[1].op).lv, args[1].text) := by
  have e : ∀ v : UInt8, v.toNat ≤ 10 → ¬ op = v := fun v hv e => by rw [e] at h1; omega
  have e2 := shape_two h1 h2
  rw [text_mk, txt, if_neg (e 1 (by decide)), if_neg (not_or.2 ⟨e 5 (by decide), e 8 (by decide)⟩), if_neg (not_or.2 ⟨e 6 (by decide), e 7 (by decide)⟩), if_neg (not_or.2 ⟨e 9 (by decide), e 10 (by decide)⟩), if_neg (by omega), map_getD k0, map_getD k1, sym_tx h1 h2]
  simp only [List.append_assoc]
set_option maxRecDepth 100000 in
theorem printExprR_any (H : Hp) (e : Ex) : TextR H e := by
  induction e using Ex.ind with | _ op nm nn args ih
  intro cs w h hf hl hA
  obtain ⟨p, c, rfl, hs, hnm⟩ := ex_open h
  rw [all_mk, Bool.and_eq_true] at hf
  obtain ⟨hf1, hf2⟩ := hf
  simp only [frmE, Bool.and_eq_true, decide_eq_true_eq] at hf1
  obtain ⟨⟨⟨hok, har⟩, _⟩, hN⟩ := hf1
  have hok0 := hok
  refine Sx.enter (H := H) Tryd.func10 rfl Tryd.ntmps10 rfl hA ?_
  refine .sq <| .rg <| .bx rfl rfl rfl fun b1 => .a rfl rfl <| .nl <| .tN <| .sq <| .sq <| .rg <| .yv (.fieldAddr rfl Fx.field26_0) rfl <| .yv (.load rfl Fx.agg3 (.head _) rfl) rfl <|
    .nl <| .tN <| .bk <| .sq <| .rg <| .yv (.eql rfl rfl) rfl <| .a rfl rfl <| .nl <| .tN <| .cd rfl (fun h7 => ?_) (fun h7 => ?_)
  · try simp only [decide_eq_true_eq] at h7
    have e1 : op = 1 := UInt8.toNat_inj.1 (by show op.toNat = 1; omega)
    subst e1
    have hn : args.length = 0 := har.trans (by decide)
    have h1n : 0 ≤ nn.toInt := by simpa using hN
    refine .sq <| .rg <| .yv (.fieldAddr rfl Fx.field26_2) rfl <| .yv (.load rfl Fx.agg2 (.head _) rfl) rfl <| .yv (.call Fx.call28 rfl (fun W s => number_any H nn.toInt (by have := nn.le_toInt; omega) (by have := nn.toInt_lt; omega) W s.agr)) rfl <|
      .a rfl rfl <| .nl <| .tN <| .rt <| .bR <| .tR <| ?_
    refine Sx.ret1 (.inl rfl) rfl (.tmp rfl) fun W s => ⟨?_, s.ext⟩
    first
      | (rfl)
      | (rw [text_mk, txt]; rfl)
      | (simp only [List.append_assoc]; rfl)
  · try simp only [decide_eq_false_iff_not] at h7
    have n1 : ¬ op.toNat = 1 := by omega
    refine .sq <| .rg <| .yv (.eql rfl rfl) rfl <| .a rfl rfl <| .nl <| .tN <| .cd rfl (fun h12 => ?_) (fun h12 => ?_)
    · try simp only [decide_eq_true_eq] at h12
      have e2 : op = 2 := UInt8.toNat_inj.1 (by show op.toNat = 2; omega)
      subst e2
      have hn : args.length = 0 := har.trans (by decide)
      refine .sq <| .rg <| .a rfl rfl <| .nl <| .tN <| .rt <| .bR <| .tR <| ?_
      refine Sx.ret1 (.inl rfl) rfl (.tmp rfl) fun W s => ⟨?_, s.ext⟩
      first
        | (rfl)
        | (rw [text_mk, txt]; rfl)
        | (simp only [List.append_assoc]; rfl)
    · try simp only [decide_eq_false_iff_not] at h12
      have n2 : ¬ op.toNat = 2 := by omega
      refine .sq <| .rg <| .yv (.eql rfl rfl) rfl <| .a rfl rfl <| .nl <| .tN <| .cd rfl (fun h14 => ?_) (fun h14 => ?_)
      · try simp only [decide_eq_true_eq] at h14
        have e3 : op = 3 := UInt8.toNat_inj.1 (by show op.toNat = 3; omega)
        subst e3
        have hn : args.length = 0 := har.trans (by decide)
        refine .sq <| .rg <| .a rfl rfl <| .nl <| .tN <| .rt <| .bR <| .tR <| ?_
        refine Sx.ret1 (.inl rfl) rfl (.tmp rfl) fun W s => ⟨?_, s.ext⟩
        first
          | (rfl)
          | (rw [text_mk, txt]; rfl)
          | (simp only [List.append_assoc]; rfl)
      · try simp only [decide_eq_false_iff_not] at h14
        have n3 : ¬ op.toNat = 3 := by omega
        refine .sq <| .rg <| .yv (.eql rfl rfl) rfl <| .a rfl rfl <| .nl <| .tN <| .cd rfl (fun h16 => ?_) (fun h16 => ?_)
        · try simp only [decide_eq_true_eq] at h16
          have e4 : op = 4 := UInt8.toNat_inj.1 (by show op.toNat = 4; omega)
          subst e4
          have hn : args.length = 0 := har.trans (by decide)
          refine .sq <| .rg <| .a rfl rfl <| .nl <| .tN <| .rt <| .bR <| .tR <| ?_
          refine Sx.ret1 (.inl rfl) rfl (.tmp rfl) fun W s => ⟨?_, s.ext⟩
          first
            | (rfl)
            | (rw [text_mk, txt]; rfl)
            | (simp only [List.append_assoc]; rfl)
        · try simp only [decide_eq_false_iff_not] at h16
          have n4 : ¬ op.toNat = 4 := by omega
          refine .sq <| .rg <| .yv (.eql rfl rfl) rfl <| .a rfl rfl <| .nl <| .tN <| .cd rfl (fun h18 => ?_) (fun h18 => ?_)
          · try simp only [decide_eq_true_eq] at h18
            have e5 : op = 5 := UInt8.toNat_inj.1 (by show op.toNat = 5; omega)
            subst e5
            have hn : args.length = 0 := har.trans (by decide)
            refine .sq <| .rg <| .yv (.fieldAddr rfl Fx.field26_1) rfl <| .yv (.load rfl Fx.agg9 (.head _) rfl) rfl <| .a rfl rfl <| .nl <| .tN <| .rt <| .bR <| .tR <| ?_
            refine Sx.ret1 (.inl rfl) rfl (.tmp rfl) fun W s => ⟨?_, s.ext⟩
            first
              | (rfl)
              | (rw [text_mk, txt]; rfl)
              | (simp only [List.append_assoc]; rfl)
          · try simp only [decide_eq_false_iff_not] at h18
            have n5 : ¬ op.toNat = 5 := by omega
            refine .sq <| .rg <| .yv (.eql rfl rfl) rfl <| .a rfl rfl <| .nl <| .tN <| .cd rfl (fun h22 => ?_) (fun h22 => ?_)
            · try simp only [decide_eq_true_eq] at h22
              have e6 : op = 6 := UInt8.toNat_inj.1 (by show op.toNat = 6; omega)
              subst e6
              have hn : args.length = 1 := har.trans (by decide)
              have h0 : 0 < args.length := by omega
              obtain ⟨b0, o0, c0, hp0, r0, l0, m0⟩ := hs.elem (map_at h0)
              cases hp0
              have hf0 := lalls_at h0 hf2
              have htx : Ex.text (.mk 6 nm nn args) = nm ++ ([91] : Str) ++ Ex.text args[0] ++ ([93] : Str) := by rw [text_mk, txt_k6, map_getD h0]
              rw [htx] at hl ⊢
              have hO := opT_len 6 ((shapeOf args[0].op).lv, Ex.text args[0])
              dsimp only at hO
              simp only [List.length_append] at hl
              refine .sq <| .fl (trip := [(_, _, _), (_, _, _), (_, _, _), (_, _, _), (_, _, _), (_, _, _), (_, _, _), (_, _, _), (_, _, _), (_, _, _)]) 10 [(0, 0), (1, 0), (2, 0), (3, 0), (4, 0), (5, 0), (6, 0), (7, 0), (8, 0), (9, 0)] (by kernel_rfl) (by kernel_rfl) rfl <|
                .yv (.fieldAddr rfl Fx.field26_1) rfl <| .yv (.load rfl Fx.agg9 (.head _) rfl) rfl <| .yv (.app rfl rfl (by (try simp only [List.length_append]); (try simp only [List.length_cons, List.length_nil]); omega)) rfl <|
                .yv (.fieldAddr rfl Fx.field26_3) rfl <| .yv (.load rfl Fx.agg24 (.head _) rfl) rfl <| .yv (.indexSl Fx.sl24 rfl rfl (i := 0) rfl (by omega) (q := o0 + 0 * 4) rfl) rfl <|
                .yv (.loadMW rfl Fx.agg26 m0 l0) rfl <| .yv (.call Fx.call10 rfl (fun W s => ih _ (List.getElem_mem h0) _ W r0 hf0 (by omega) s.agr)) rfl <| .yv (.app rfl rfl (by (try simp only [List.length_append]); (try simp only [List.length_cons, List.length_nil]); omega)) rfl <|
                .yv (.app rfl rfl (by (try simp only [List.length_append]); (try simp only [List.length_cons, List.length_nil]); omega)) rfl <| .fn (tl := [_]) rfl <| .a rfl rfl <|
                .nl <| .tN <| .rt <| .bR <| .tR <| ?_
              refine Sx.ret1 (.inl rfl) rfl (.tmp rfl) fun W s => ⟨?_, s.ext⟩
              first
                | (rfl)
                | (rw [text_mk, txt]; rfl)
                | (simp only [List.append_assoc]; rfl)
            · try simp only [decide_eq_false_iff_not] at h22
              have n6 : ¬ op.toNat = 6 := by omega
              refine .sq <| .rg <| .yv (.eql rfl rfl) rfl <| .a rfl rfl <| .nl <| .tN <| .cd rfl (fun h34 => ?_) (fun h34 => ?_)
              · try simp only [decide_eq_true_eq] at h34
                have e7 : op = 7 := UInt8.toNat_inj.1 (by show op.toNat = 7; omega)
                subst e7
                have hn : args.length = 1 := har.trans (by decide)
                have h0 : 0 < args.length := by omega
                obtain ⟨b0, o0, c0, hp0, r0, l0, m0⟩ := hs.elem (map_at h0)
                cases hp0
                have hf0 := lalls_at h0 hf2
                have htx : Ex.text (.mk 7 nm nn args) = ([104, 97, 115, 32] : Str) ++ nm ++ ([91] : Str) ++ Ex.text args[0] ++ ([93] : Str) := by rw [text_mk, txt_k7, map_getD h0]
                rw [htx] at hl ⊢
                have hO := opT_len 6 ((shapeOf args[0].op).lv, Ex.text args[0])
                dsimp only at hO
                simp only [List.length_append] at hl
                refine .sq <| .fl (trip := [(_, _, _), (_, _, _), (_, _, _), (_, _, _), (_, _, _), (_, _, _), (_, _, _), (_, _, _), (_, _, _), (_, _, _), (_, _, _)]) 11 [(0, 0), (1, 0), (2, 0), (3, 0), (4, 0), (5, 0), (6, 0), (7, 0), (8, 0), (9, 0), (10, 0)] (by kernel_rfl) (by kernel_rfl) rfl <|
                  .yv (.fieldAddr rfl Fx.field26_1) rfl <| .yv (.load rfl Fx.agg9 (.head _) rfl) rfl <| .yv (.app rfl rfl (by (try simp only [List.length_append]); (try simp only [List.length_cons, List.length_nil]); omega)) rfl <|
                  .yv (.app rfl rfl (by (try simp only [List.length_append]); (try simp only [List.length_cons, List.length_nil]); omega)) rfl <| .yv (.fieldAddr rfl Fx.field26_3) rfl <|
                  .yv (.load rfl Fx.agg24 (.head _) rfl) rfl <| .yv (.indexSl Fx.sl24 rfl rfl (i := 0) rfl (by omega) (q := o0 + 0 * 4) rfl) rfl <| .yv (.loadMW rfl Fx.agg26 m0 l0) rfl <|
                  .yv (.call Fx.call10 rfl (fun W s => ih _ (List.getElem_mem h0) _ W r0 hf0 (by omega) s.agr)) rfl <| .yv (.app rfl rfl (by (try simp only [List.length_append]); (try simp only [List.length_cons, List.length_nil]); omega)) rfl <|
                  .yv (.app rfl rfl (by (try simp only [List.length_append]); (try simp only [List.length_cons, List.length_nil]); omega)) rfl <| .fn (tl := [_]) rfl <| .a rfl rfl <|
                  .nl <| .tN <| .rt <| .bR <| .tR <| ?_
                refine Sx.ret1 (.inl rfl) rfl (.tmp rfl) fun W s => ⟨?_, s.ext⟩
                first
                  | (rfl)
                  | (rw [text_mk, txt]; rfl)
                  | (simp only [List.append_assoc]; rfl)
              · try simp only [decide_eq_false_iff_not] at h34
                have n7 : ¬ op.toNat = 7 := by omega
                refine .sq <| .rg <| .yv (.eql rfl rfl) rfl <| .a rfl rfl <| .nl <| .tN <| .cd rfl (fun h47 => ?_) (fun h47 => ?_)
                · try simp only [decide_eq_true_eq] at h47
                  have e8 : op = 8 := UInt8.toNat_inj.1 (by show op.toNat = 8; omega)
                  subst e8
                  have hn : args.length = 0 := har.trans (by decide)
                  refine .sq <| .rg <| .yv (.fieldAddr rfl Fx.field26_1) rfl <| .yv (.load rfl Fx.agg9 (.head _) rfl) rfl <| .yv (.app rfl rfl (by (try simp only [List.length_append]); (try simp only [List.length_cons, List.length_nil]); omega)) rfl <|
                    .a rfl rfl <| .nl <| .tN <| .rt <| .bR <| .tR <| ?_
                  refine Sx.ret1 (.inl rfl) rfl (.tmp rfl) fun W s => ⟨?_, s.ext⟩
                  first
                    | (rfl)
                    | (rw [text_mk, txt]; rfl)
                    | (simp only [List.append_assoc]; rfl)
                · try simp only [decide_eq_false_iff_not] at h47
                  have n8 : ¬ op.toNat = 8 := by omega
                  refine .sq <| .rg <| .yv (.eql rfl rfl) rfl <| .a rfl rfl <| .nl <| .tN <| .cd rfl (fun h52 => ?_) (fun h52 => ?_)
                  · try simp only [decide_eq_true_eq] at h52
                    have e9 : op = 9 := UInt8.toNat_inj.1 (by show op.toNat = 9; omega)
                    subst e9
                    have hn : args.length = 1 := har.trans (by decide)
                    have h0 : 0 < args.length := by omega
                    obtain ⟨b0, o0, c0, hp0, r0, l0, m0⟩ := hs.elem (map_at h0)
                    cases hp0
                    have hf0 := lalls_at h0 hf2
                    have htx : Ex.text (.mk 9 nm nn args) = ([45] : Str) ++ opT 6 ((shapeOf args[0].op).lv, Ex.text args[0]) := by rw [text_mk, txt_k9, map_getD h0]
                    rw [htx] at hl ⊢
                    have hO := opT_len 6 ((shapeOf args[0].op).lv, Ex.text args[0])
                    dsimp only at hO
                    simp only [List.length_append] at hl
                    refine .sq <| .rg <| .yv (.fieldAddr rfl Fx.field26_3) rfl <| .yv (.load rfl Fx.agg24 (.head _) rfl) rfl <| .yv (.indexSl Fx.sl24 rfl rfl (i := 0) rfl (by omega) (q := o0 + 0 * 4) rfl) rfl <|
                      .yv (.loadMW rfl Fx.agg26 m0 l0) rfl <| .yv (.call Fx.call29 rfl (fun W s => operandR6_any H _ (ih _ (List.getElem_mem h0)) _ r0 hf0 (by omega) W s.agr)) rfl <|
                      .yv (.app rfl rfl (by (try simp only [List.length_append]); (try simp only [List.length_cons, List.length_nil]); omega)) rfl <| .a rfl rfl <| .nl <| .tN <| .rt <|
                      .bR <| .tR <| ?_
                    refine Sx.ret1 (.inl rfl) rfl (.tmp rfl) fun W s => ⟨?_, s.ext⟩
                    first
                      | (rfl)
                      | (rw [text_mk, txt]; rfl)
                      | (simp only [List.append_assoc]; rfl)
                  · try simp only [decide_eq_false_iff_not] at h52
                    have n9 : ¬ op.toNat = 9 := by omega
                    refine .sq <| .rg <| .yv (.eql rfl rfl) rfl <| .a rfl rfl <| .nl <| .tN <| .cd rfl (fun h60 => ?_) (fun h60 => ?_)
                    · try simp only [decide_eq_true_eq] at h60
                      have e10 : op = 10 := UInt8.toNat_inj.1 (by show op.toNat = 10; omega)
                      subst e10
                      have hn : args.length = 1 := har.trans (by decide)
                      have h0 : 0 < args.length := by omega
                      obtain ⟨b0, o0, c0, hp0, r0, l0, m0⟩ := hs.elem (map_at h0)
                      cases hp0
                      have hf0 := lalls_at h0 hf2
                      have htx : Ex.text (.mk 10 nm nn args) = ([110, 111, 116, 32] : Str) ++ opT 6 ((shapeOf args[0].op).lv, Ex.text args[0]) := by rw [text_mk, txt_k10, map_getD h0]
                      rw [htx] at hl ⊢
                      have hO := opT_len 6 ((shapeOf args[0].op).lv, Ex.text args[0])
                      dsimp only at hO
                      simp only [List.length_append] at hl
                      refine .sq <| .rg <| .yv (.fieldAddr rfl Fx.field26_3) rfl <| .yv (.load rfl Fx.agg24 (.head _) rfl) rfl <| .yv (.indexSl Fx.sl24 rfl rfl (i := 0) rfl (by omega) (q := o0 + 0 * 4) rfl) rfl <|
                        .yv (.loadMW rfl Fx.agg26 m0 l0) rfl <| .yv (.call Fx.call29 rfl (fun W s => operandR6_any H _ (ih _ (List.getElem_mem h0)) _ r0 hf0 (by omega) W s.agr)) rfl <|
                        .yv (.app rfl rfl (by (try simp only [List.length_append]); (try simp only [List.length_cons, List.length_nil]); omega)) rfl <| .a rfl rfl <| .nl <| .tN <| .rt <|
                        .bR <| .tR <| ?_
                      refine Sx.ret1 (.inl rfl) rfl (.tmp rfl) fun W s => ⟨?_, s.ext⟩
                      first
                        | (rfl)
                        | (rw [text_mk, txt]; rfl)
                        | (simp only [List.append_assoc]; rfl)
                    · try simp only [decide_eq_false_iff_not] at h60
                      have n10 : ¬ op.toNat = 10 := by omega
                      simp only [okOp, Bool.and_eq_true, decide_eq_true_eq] at hok
                      have hop : 11 ≤ op.toNat := by omega
                      have hn2 : args.length = 2 := har.trans (shape_two hop hok.2)
                      have h0 : 0 < args.length := by omega
                      obtain ⟨b0, o0, c0, hp0, r0, l0, m0⟩ := hs.elem (map_at h0)
                      cases hp0
                      have hf0 := lalls_at h0 hf2
                      have h1 : 1 < args.length := by omega
                      obtain ⟨b1x, o1, c1, hp1, r1, l1, m1⟩ := hs.elem (map_at h1)
                      cases hp1
                      have hf1 := lalls_at h1 hf2
                      have htx := text_two (op := op) (nm := nm) (n := nn) (args := args) hop hok.2 h0 h1
                      rw [htx] at hl ⊢
                      simp only [List.length_append] at hl
                      have ho := opT_len (lftT (shapeOf op).lv) ((shapeOf args[0].op).lv, args[0].text)
                      have ho1 := opT_len ((shapeOf op).lv + 1) ((shapeOf args[1].op).lv, args[1].text)
                      have hlv1 := shape_lv1 hop hok.2
                      dsimp only at ho ho1
                      refine .sk <| .bN <| .tN <| .sq <| .rg <| .yv (.fieldAddr rfl Fx.field26_0) rfl <| .yv (.load rfl Fx.agg3 (.head _) rfl) rfl <| .yv (.cast (.call Fx.call30 rfl (fun W s => level_any H op.toNat W s.agr)) (by rw [lvR_ok hok0])) rfl <|
                        .a rfl rfl <| .nl <| .tN <| .sq <| .rg <| .m rfl rfl <| .yv (.sub rfl rfl (c := (((shapeOf op).lv - 1 : Nat) : Int)) ((w64 (by omega) (by omega)).trans (by omega))) rfl <|
                        .a rfl rfl <| .nl <| .tN <| .cu (X := Unit) [(1, _), (3, _)] ⟨rfl, rfl, trivial⟩ (fun z => [(4, .int .i64 (lftT (shapeOf op).lv - 1 : Nat))]) (fun z => H) (fun z => [.box b1 [.int .i64 op.toNat, strV nm, .int .i64 nn.toInt, .slice (some ⟨b0, o0, none⟩) args.length c] 26]) (fun z => True) ?_ fun z hC => ?_
                      ·
                        refine .sq <| .rg <| .m rfl rfl <| .yv (.eql rfl rfl) rfl <| .nl <| .tN <| .cd rfl (fun h74 => ?_) (fun h74 => ?_)
                        · try simp only [decide_eq_true_eq] at h74
                          exact .rg <| .a rfl rfl <| .nl <| .tN <| .me () ⟨(by first | (rw [lftT, if_pos (by omega), show (shapeOf op).lv + 1 - 1 = 3 by omega]; rfl) | (rw [lftT, if_neg (by omega)]; rfl)), trivial⟩ ⟨rfl, rfl, trivial⟩ (fun _ s => s) trivial
                        · try simp only [decide_eq_false_iff_not] at h74
                          exact .sk <| .tN <| .me () ⟨(by first | (rw [lftT, if_pos (by omega), show (shapeOf op).lv + 1 - 1 = 3 by omega]; rfl) | (rw [lftT, if_neg (by omega)]; rfl)), trivial⟩ ⟨rfl, rfl, trivial⟩ (fun _ s => s) trivial
                      ·
                        refine .sq <| .fl (trip := [(_, _, _), (_, _, _), (_, _, _), (_, _, _), (_, _, _), (_, _, _), (_, _, _), (_, _, _), (_, _, _), (_, _, _), (_, _, _), (_, _, _), (_, _, _), (_, _, _), (_, _, _), (_, _, _), (_, _, _), (_, _, _), (_, _, _)]) 19 [(0, 0), (1, 0), (2, 0), (3, 0), (4, 0), (5, 0), (6, 0), (7, 0), (8, 0), (9, 0), (10, 0), (11, 0), (12, 0), (13, 0), (14, 0), (15, 0), (16, 0), (17, 0), (18, 0)] (by kernel_rfl) (by kernel_rfl) rfl <|
                          .yv (.fieldAddr rfl Fx.field26_3) rfl <| .yv (.load rfl Fx.agg24 (.head _) rfl) rfl <| .yv (.indexSl Fx.sl24 rfl rfl (i := 0) rfl (by omega) (q := o0 + 0 * 4) rfl) rfl <|
                          .yv (.loadMW rfl Fx.agg26 m0 l0) rfl <| .m rfl rfl <| .yv (.call Fx.call29 rfl (fun W s => operandRm_any H _ (ih _ (List.getElem_mem h0)) _ r0 hf0 (by omega) (lftT (shapeOf op).lv - 1) (lftT (shapeOf op).lv) (lft_back hlv1) W s.agr)) rfl <|
                          .yv (.app rfl rfl (by (try simp only [List.length_append]); (try simp only [List.length_cons, List.length_nil]); omega)) rfl <| .yv (.fieldAddr rfl Fx.field26_0) rfl <|
                          .yv (.load rfl Fx.agg3 (.head _) rfl) rfl <| .yv (.call Fx.call31 rfl (fun W s => symbol_any H op.toNat hop hok.2 W s.agr)) rfl <| .yv (.app rfl rfl (by (try simp only [List.length_append]); (try simp only [List.length_cons, List.length_nil]); omega)) rfl <|
                          .yv (.app rfl rfl (by (try simp only [List.length_append]); (try simp only [List.length_cons, List.length_nil]); omega)) rfl <| .yv (.fieldAddr rfl Fx.field26_3) rfl <|
                          .yv (.load rfl Fx.agg24 (.head _) rfl) rfl <| .yv (.indexSl Fx.sl24 rfl rfl (i := 1) rfl (by omega) (q := o0 + 1 * 4) rfl) rfl <| .yv (.loadMW rfl Fx.agg26 m1 l1) rfl <|
                          .m rfl rfl <| .yv (.call Fx.call29 rfl (fun W s => operandR_any H _ (ih _ (List.getElem_mem h1)) _ r1 hf1 (by omega) (shapeOf op).lv W s.agr)) rfl <| .yv (.app rfl rfl (by (try simp only [List.length_append]); (try simp only [List.length_cons, List.length_nil]); omega)) rfl <|
                          .fn (tl := [_]) rfl <| .a rfl rfl <| .nl <| .tN <| .rt <| ?_
                        refine Sx.ret1 (.inl rfl) rfl (.tmp rfl) fun W s => ⟨?_, s.ext⟩
                        first
                          | (rfl)
                          | (rw [text_mk, txt]; rfl)
                          | (simp only [List.append_assoc]; rfl)
end Go.Proofs.YtmbiojpcidccjaaDoor
/- Facts on types and functions. -/
namespace Go.Proofs.YtmbiojpcidccjaaDoor
open Go.RowKit Go.Par Go.Sx
end Go.Proofs.YtmbiojpcidccjaaDoor
/- Contracts: Build. -/
namespace Go.Proofs.YtmbiojpcidccjaaDoor
open Go.RowKit Go.Par Go.Sx
theorem eqIt {P : Program} {L : Sl} {H : Hp} {w0 : World} {bs : List Res} {d : Option Tmp} {ty : TypeId} {pos : String} {aft : Array Edge} {g : Option (Nat × Bool)} {x y : Operand} {T T' : TypeId} {k : IntKind} {a : Int} (hx : ev L x = some (.int k a)) (hy : ev L y = some (.int k a)) : Yl P L H w0 bs ⟨d, .binOp .eql T x y T', ty, pos, aft, g⟩ (.bool true) :=
  (Yl.eql hx hy).cast (by rw [decide_eq_true rfl])
/-- What Build returns. -/
def BuiltC (x : List Value) (H' : Hp) : Prop := ∃ e : Ex, Rep H' (dEx .i64 e) x ∧ goodE 1 e
set_option maxRecDepth 100000 in
theorem buildR_any (H : Hp) (l : List Nd) (v : Value) (h0 : Rep H (.seq 5 (l.map dNd)) [v]) (w : World) (hA : Agr H w) :
    Calls Tryd.prog 7 #[v] w fun r w' => ∃ (x : List Value) (H' : Hp), BuiltC x H' ∧ r = .returned (.agg x.toArray) ∧ Grow H w H' w' := by
  obtain ⟨p, c, e, _⟩ := h0.sl
  simp only [List.cons.injEq, and_true, List.length_map] at e
  subst e
  have h := h0
  have hcap := h.cap
  refine Sx.enter (H := H) Tryd.func7 rfl Tryd.ntmps7 rfl hA ?_
  refine .sq <| .rg <| .al Fx.zero26 rfl fun b2 => .nl <| .tN <| .sq <| .rg <| .m rfl rfl <| .m rfl rfl <| .yv (.lenSl Fx.sl22 rfl) rfl <| .yv (.min2 rfl rfl (c := ((min l.length 60 : Nat) : Int)) (by omega)) rfl <|
    .yv (.cutHi2 Fx.sl22 rfl rfl (h := min l.length 60) rfl (by have := h.len.2.1; omega)) rfl <| .ct (X := List Value × Value) Fx.call25 rfl (fun W s => build_any 30 1 rfl H (l.take (min l.length 60)) _ W (by rw [List.map_take]; exact rep_take2 h (by omega)) s.agr) rfl fun y H1 hc u1 => ?_
  obtain ⟨x, y⟩ := y
  obtain ⟨e, rest, hx, hg, _⟩ := hc
  dsimp only at hx
  refine .m rfl rfl <| .yv (.extract rfl rfl) rfl <| .yv (.extract rfl rfl) rfl <| .al Fx.zero26 rfl fun b3 => .sV .head rfl rfl Fx.size26 (ex_len hx) hx.one rfl <|
    .a rfl rfl <| .nl <| .tN <| .sq <| .rg <| .yv (.loadW rfl Fx.agg26 (.head _) (ex_len hx)) rfl <| .sV (.tail <| .head) rfl rfl Fx.size26 (ex_len hx) hx.one rfl <|
    .nl <| .tN <| .rt <| ?_
  exact Sx.ret1 (.inl rfl) rfl (.cell rfl Fx.agg26 (.tail _ <| .head _) (ex_len hx)) fun W t => ⟨x, H1, ⟨e, hx, hg⟩, rfl, u1.grow t⟩
end Go.Proofs.YtmbiojpcidccjaaDoor
/- Facts on types and functions. -/
namespace Go.Proofs.YtmbiojpcidccjaaDoor
open Go.RowKit Go.Par Go.Sx
theorem Fx.call6 : callN Tryd.prog 6 = Bool.true := by kernel_rfl
theorem Fx.call7 : callN Tryd.prog 7 = Bool.true := by kernel_rfl
theorem Fx.call9 : callN Tryd.prog 9 = Bool.true := by kernel_rfl
end Go.Proofs.YtmbiojpcidccjaaDoor
/- The walk of SyntaxExprs. -/
namespace Go.Proofs.YtmbiojpcidccjaaDoor
open Go.RowKit Go.Par Go.Sx
theorem printE_ok {H : Hp} (G : Gl H) (g : Gt H) {e : Ex} {cs : List Value} (h : Rep H (dEx .u8 e) cs) (he : e.depth ≤ 1000000) (hck : checkE e = 0) (w : World) (hA : Agr H w) : Calls Tryd.prog 12 #[.agg cs.toArray] w fun r w' => r = .returned (strV e.text) ∧ Ext w w' :=
  (printExpr_any H G g e cs h he w hA).mono fun _ _ ⟨a, b⟩ => ⟨by rw [a, if_pos hck], b⟩
theorem printE_bad {H : Hp} (G : Gl H) (g : Gt H) {e : Ex} {cs : List Value} (h : Rep H (dEx .u8 e) cs) (he : e.depth ≤ 1000000) (hck : ¬ checkE e = 0) (w : World) (hA : Agr H w) : Calls Tryd.prog 12 #[.agg cs.toArray] w fun r w' => r = .returned (strV []) ∧ Ext w w' :=
  (printExpr_any H G g e cs h he w hA).mono fun _ _ ⟨a, b⟩ => ⟨by rw [a, if_neg hck], b⟩
set_option maxRecDepth 100000 in
theorem syntaxExprs_any (H : Hp) (G : Gl H) (g : Gt H) (l : List Nd) (v : Value) (h : Rep H (.seq 5 (l.map dNd)) [v]) (w : World) (hA : Agr H w) :
    Calls Tryd.prog 3 #[v] w fun r w' => r = .returned (.bool true) ∧ Ext w w' := by
  refine Sx.enter (H := H) Tryd.func3 rfl Tryd.ntmps3 rfl hA ?_
  refine .sq <| .rg <| .a rfl rfl <| .nl <| .tN <| .sq <| .sq <| .rg <| .yv (.call Fx.call6 rfl (fun W t => awake_any H G g W t.agr)) rfl <| .yv (.not rfl) rfl <|
    .nl <| .tN <| .cF rfl <| .sk <| .tN <| .sq <| .rg <| .m rfl rfl <| .ct (X := List Value) Fx.call7 rfl (fun W t => buildR_any H l v h W t.agr) rfl fun x H1 hc u1 => ?_
  obtain ⟨e, hx, hg⟩ := hc
  refine .al Fx.zero26 rfl fun b3 => .sV .head rfl rfl Fx.size26 (ex_len hx) hx.one rfl <| .nl <| .tN <| .sq <| .rg <| .yv (.loadW rfl Fx.agg26 (.head _) (ex_len hx)) rfl <|
    .ct (X := List Value) Fx.call8 rfl (fun W t => expr_any e hg.2 H1 x W hx t.agr) rfl fun y H2 hy u2 => ?_
  have hx2 := hx.up u2.up
  have v2 := u1.up.trans u2.up
  refine .al Fx.zero31 rfl fun b4 => .sV .head rfl rfl Fx.size31 (ex_len hy) hy.one rfl <| .nl <| .tN <| .sq <| .rg <| .yv (.loadW rfl Fx.agg26 (.tail _ <| .head _) (ex_len hx)) rfl <|
    .yv (.call Fx.call9 rfl (fun W t => checkExprR_any H2 e x hx2 (by have := hg.1; omega) W t.agr)) rfl <| .a rfl rfl <| .nl <| .tN <| .sq <| .rg <| .a rfl rfl <|
    .nl <| .tN <| .sq <| .sq <| .rg <| .m rfl rfl <| .yv (.eql rfl rfl) rfl <| .nl <| .tN <| .cd rfl (fun h16 => ?_) (fun h16 => ?_)
  · try simp only [decide_eq_true_eq] at h16
    have hck : checkE e = 0 := by omega
    obtain ⟨hf, hl⟩ := textE_good hck
    refine .rg <| .yv (.loadW rfl Fx.agg26 (.tail _ <| .head _) (ex_len hx)) rfl <| .yv (.call Fx.call10 rfl (fun W t => printExprR_any H2 e x W hx2 hf hl t.agr)) rfl <|
      .a rfl rfl <| .nl <| .tN <| .sq <| .rg <| .yv (.loadW rfl Fx.agg31 (.head _) (ex_len hy)) rfl <| .yv (.call Fx.call11 rfl (fun W t => checkExpr_any H2 (G.up v2) e y hy (by have := hg.1; omega) W t.agr)) rfl <|
      .m rfl rfl <| .yv (eqIt rfl rfl) rfl <| .m rfl rfl <| .gd rfl rfl <| .yv (.loadW rfl Fx.agg31 (.head _) (ex_len hy)) rfl <| .gd rfl rfl <| .yv (.call Fx.call12 rfl (fun W t => printE_ok (G.up v2) (g.up v2) hy (by have := hg.1; omega) hck W t.agr)) rfl <|
      .gd rfl rfl <| .yv (.move rfl) rfl <| .gd rfl rfl <| .yv (eqSt (a := e.text) rfl rfl) rfl <| .yv (.pickT rfl rfl) rfl <| .a rfl rfl <| .nl <| .tN <| .rt <| ?_
    exact Sx.ret1 (.inl rfl) rfl (.tmp rfl) fun W t => ⟨rfl, ((u1.trans u2).grow t).ext⟩
  · try simp only [decide_eq_false_iff_not] at h16
    have hck : ¬ checkE e = 0 := by omega
    refine .sk <| .tN <| .sq <| .rg <| .yv (.loadW rfl Fx.agg31 (.head _) (ex_len hy)) rfl <| .yv (.call Fx.call11 rfl (fun W t => checkExpr_any H2 (G.up v2) e y hy (by have := hg.1; omega) W t.agr)) rfl <|
      .m rfl rfl <| .yv (eqIt rfl rfl) rfl <| .m rfl rfl <| .gd rfl rfl <| .yv (.loadW rfl Fx.agg31 (.head _) (ex_len hy)) rfl <| .gd rfl rfl <| .yv (.call Fx.call12 rfl (fun W t => printE_bad (G.up v2) (g.up v2) hy (by have := hg.1; omega) hck W t.agr)) rfl <|
      .gd rfl rfl <| .yv (.move rfl) rfl <| .gd rfl rfl <| .yv (eqSt (a := []) rfl rfl) rfl <| .yv (.pickT rfl rfl) rfl <| .a rfl rfl <| .nl <| .tN <| .rt <| ?_
    exact Sx.ret1 (.inl rfl) rfl (.tmp rfl) fun W t => ⟨rfl, ((u1.trans u2).grow t).ext⟩
end Go.Proofs.YtmbiojpcidccjaaDoor
/- Facts on types and functions. -/
namespace Go.Proofs.YtmbiojpcidccjaaDoor
open Go.RowKit Go.Par Go.Sx
theorem Fx.bytes39 : bytesN Tryd.prog 39 = Bool.true := by kernel_rfl
theorem Fx.field142_6 : fieldN Tryd.prog 142 6 = Option.some 6 := by kernel_rfl
theorem Fx.bsl39_2 (x0 : Int) (x1 : Int) : bslN Tryd.prog 39 2 [(0, .int .u8 x0), (1, .int .u8 x1)] = some (5, [.int .u8 x0, .int .u8 x1]) := by kernel_rfl
end Go.Proofs.YtmbiojpcidccjaaDoor
/- Facts on types and functions. -/
namespace Go.Proofs.YtmbiojpcidccjaaDoor
open Go.RowKit Go.Par Go.Sx
theorem Fx.call55 : callN Tryd.prog 55 = Bool.true := by kernel_rfl
theorem Fx.call96 : callN Tryd.prog 96 = Bool.true := by kernel_rfl
theorem Fx.field142_0 : fieldN Tryd.prog 142 0 = Option.some 0 := by kernel_rfl
end Go.Proofs.YtmbiojpcidccjaaDoor
/- Facts on types and functions. -/
namespace Go.Proofs.YtmbiojpcidccjaaDoor
open Go.RowKit Go.Par Go.Sx
theorem Fx.call112 : callN Tryd.prog 112 = Bool.true := by kernel_rfl
theorem Fx.call114 : callN Tryd.prog 114 = Bool.true := by kernel_rfl
theorem Fx.field142_1 : fieldN Tryd.prog 142 1 = Option.some 1 := by kernel_rfl
theorem Fx.field142_5 : fieldN Tryd.prog 142 5 = Option.some 5 := by kernel_rfl
theorem Fx.sl137 : slN Tryd.prog 137 = Option.some 1 := by kernel_rfl
theorem Fx.bld26_0_1 (x0 : Int) (x1 : ByteArray) : buildN Tryd.prog 26 [(0, .int .i64 x0), (1, .string x1)] = some [.int .i64 x0, .string x1, .int .i64 0, .slice none 0 0] := by kernel_rfl
theorem Fx.bld26_0_1_3 (x0 : Int) (x1 : ByteArray) (x3p : Option Addr) (x3n x3c : Nat) : buildN Tryd.prog 26 [(0, .int .i64 x0), (1, .string x1), (3, .slice x3p x3n x3c)] = some [.int .i64 x0, .string x1, .int .i64 0, .slice x3p x3n x3c] := by kernel_rfl
theorem Fx.bld26_0_3 (x0 : Int) (x3p : Option Addr) (x3n x3c : Nat) : buildN Tryd.prog 26 [(0, .int .i64 x0), (3, .slice x3p x3n x3c)] = some [.int .i64 x0, .string ⟨#[]⟩, .int .i64 0, .slice x3p x3n x3c] := by kernel_rfl
theorem Fx.bsl137_6 (x0 : Int) (x1 : Int) (x2 : Int) (x3 : Int) (x4 : Int) (x5 : Int) : bslN Tryd.prog 137 6 [(0, .int .i64 x0), (1, .int .i64 x1), (2, .int .i64 x2), (3, .int .i64 x3), (4, .int .i64 x4), (5, .int .i64 x5)] = some (3, [.int .i64 x0, .int .i64 x1, .int .i64 x2, .int .i64 x3, .int .i64 x4, .int .i64 x5]) := by kernel_rfl
theorem Fx.bsl24_2 (x00 x01 x02 x03 : Value) (x10 x11 x12 x13 : Value) : bslN Tryd.prog 24 2 [(0, .agg [x00, x01, x02, x03].toArray), (1, .agg [x10, x11, x12, x13].toArray)] = some (26, [x00, x01, x02, x03, x10, x11, x12, x13]) := by kernel_rfl
end Go.Proofs.YtmbiojpcidccjaaDoor
/- Facts on types and functions. -/
namespace Go.Proofs.YtmbiojpcidccjaaDoor
open Go.RowKit Go.Par Go.Sx
end Go.Proofs.YtmbiojpcidccjaaDoor
/- Facts on types and functions. -/
namespace Go.Proofs.YtmbiojpcidccjaaDoor
open Go.RowKit Go.Par Go.Sx
theorem Fx.call111 : callN Tryd.prog 111 = Bool.true := by kernel_rfl
theorem Fx.field142_2 : fieldN Tryd.prog 142 2 = Option.some 2 := by kernel_rfl
end Go.Proofs.YtmbiojpcidccjaaDoor
/- Facts on types and functions. -/
namespace Go.Proofs.YtmbiojpcidccjaaDoor
open Go.RowKit Go.Par Go.Sx
theorem Fx.agg136 : aggN Tryd.prog 136 = Option.some Option.none := by kernel_rfl
theorem Fx.agg137 : aggN Tryd.prog 137 = Option.some Option.none := by kernel_rfl
theorem Fx.call75 : callN Tryd.prog 75 = Bool.true := by kernel_rfl
theorem Fx.call113 : callN Tryd.prog 113 = Bool.true := by kernel_rfl
theorem Fx.field142_3 : fieldN Tryd.prog 142 3 = Option.some 3 := by kernel_rfl
theorem Fx.field142_4 : fieldN Tryd.prog 142 4 = Option.some 4 := by kernel_rfl
theorem Fx.sl136 : slN Tryd.prog 136 = Option.some 1 := by kernel_rfl
theorem Fx.bld104_0 (x0 : Int) : buildN Tryd.prog 104 [(0, .int .i64 x0)] = some [.int .i64 x0, .string ⟨#[]⟩, .string ⟨#[]⟩, .slice none 0 0, .slice none 0 0, .slice none 0 0] := by kernel_rfl
theorem Fx.bld104_0_1_2_3 (x0 : Int) (x1 : ByteArray) (x2 : ByteArray) (x3p : Option Addr) (x3n x3c : Nat) : buildN Tryd.prog 104 [(0, .int .i64 x0), (1, .string x1), (2, .string x2), (3, .slice x3p x3n x3c)] = some [.int .i64 x0, .string x1, .string x2, .slice x3p x3n x3c, .slice none 0 0, .slice none 0 0] := by kernel_rfl
theorem Fx.bld104_0_1_3 (x0 : Int) (x1 : ByteArray) (x3p : Option Addr) (x3n x3c : Nat) : buildN Tryd.prog 104 [(0, .int .i64 x0), (1, .string x1), (3, .slice x3p x3n x3c)] = some [.int .i64 x0, .string x1, .string ⟨#[]⟩, .slice x3p x3n x3c, .slice none 0 0, .slice none 0 0] := by kernel_rfl
theorem Fx.bld104_0_1_3_5 (x0 : Int) (x1 : ByteArray) (x3p : Option Addr) (x3n x3c : Nat) (x5p : Option Addr) (x5n x5c : Nat) : buildN Tryd.prog 104 [(0, .int .i64 x0), (1, .string x1), (3, .slice x3p x3n x3c), (5, .slice x5p x5n x5c)] = some [.int .i64 x0, .string x1, .string ⟨#[]⟩, .slice x3p x3n x3c, .slice none 0 0, .slice x5p x5n x5c] := by kernel_rfl
theorem Fx.bld104_0_2_3 (x0 : Int) (x2 : ByteArray) (x3p : Option Addr) (x3n x3c : Nat) : buildN Tryd.prog 104 [(0, .int .i64 x0), (2, .string x2), (3, .slice x3p x3n x3c)] = some [.int .i64 x0, .string ⟨#[]⟩, .string x2, .slice x3p x3n x3c, .slice none 0 0, .slice none 0 0] := by kernel_rfl
theorem Fx.bld104_0_3_4 (x0 : Int) (x3p : Option Addr) (x3n x3c : Nat) (x4p : Option Addr) (x4n x4c : Nat) : buildN Tryd.prog 104 [(0, .int .i64 x0), (3, .slice x3p x3n x3c), (4, .slice x4p x4n x4c)] = some [.int .i64 x0, .string ⟨#[]⟩, .string ⟨#[]⟩, .slice x3p x3n x3c, .slice x4p x4n x4c, .slice none 0 0] := by kernel_rfl
theorem Fx.bld104_0_3_4_5 (x0 : Int) (x3p : Option Addr) (x3n x3c : Nat) (x4p : Option Addr) (x4n x4c : Nat) (x5p : Option Addr) (x5n x5c : Nat) : buildN Tryd.prog 104 [(0, .int .i64 x0), (3, .slice x3p x3n x3c), (4, .slice x4p x4n x4c), (5, .slice x5p x5n x5c)] = some [.int .i64 x0, .string ⟨#[]⟩, .string ⟨#[]⟩, .slice x3p x3n x3c, .slice x4p x4n x4c, .slice x5p x5n x5c] := by kernel_rfl
theorem Fx.bld104_0_3_5 (x0 : Int) (x3p : Option Addr) (x3n x3c : Nat) (x5p : Option Addr) (x5n x5c : Nat) : buildN Tryd.prog 104 [(0, .int .i64 x0), (3, .slice x3p x3n x3c), (5, .slice x5p x5n x5c)] = some [.int .i64 x0, .string ⟨#[]⟩, .string ⟨#[]⟩, .slice x3p x3n x3c, .slice none 0 0, .slice x5p x5n x5c] := by kernel_rfl
end Go.Proofs.YtmbiojpcidccjaaDoor
/- Facts on types and functions. -/
namespace Go.Proofs.YtmbiojpcidccjaaDoor
open Go.RowKit Go.Par Go.Sx
theorem Fx.call97 : callN Tryd.prog 97 = Bool.true := by kernel_rfl
theorem Fx.field142_7 : fieldN Tryd.prog 142 7 = Option.some 7 := by kernel_rfl
theorem Fx.row57 : rowN Tryd.prog 57 = Option.some (104, 6, 112) := by kernel_rfl
theorem Fx.bsl57_1 (x00 x01 x02 x03 x04 x05 : Value) : bslN Tryd.prog 57 1 [(0, .agg [x00, x01, x02, x03, x04, x05].toArray)] = some (104, [x00, x01, x02, x03, x04, x05]) := by kernel_rfl
end Go.Proofs.YtmbiojpcidccjaaDoor
/- Facts on types and functions. -/
namespace Go.Proofs.YtmbiojpcidccjaaDoor
open Go.RowKit Go.Par Go.Sx
theorem Fx.agg144 : aggN Tryd.prog 144 = Option.some (Option.some 2) := by kernel_rfl
theorem Fx.call54 : callN Tryd.prog 54 = Bool.true := by kernel_rfl
theorem Fx.field144_1 : fieldN Tryd.prog 144 1 = Option.some 1 := by kernel_rfl
theorem Fx.row55 : rowN Tryd.prog 55 = Option.some (59, 3, 64) := by kernel_rfl
theorem Fx.size144 : sizeN Tryd.prog 144 = Option.some 2 := by kernel_rfl
theorem Fx.sl130 : slN Tryd.prog 130 = Option.some 2 := by kernel_rfl
theorem Fx.zero144 : zeroN Tryd.prog 144 = Option.some [Go.Value.int Go.IntKind.u8 (Int.ofNat 0), Go.Value.slice Option.none 0 0] := by kernel_rfl
theorem Fx.bld59_0_1_2 (x0 : ByteArray) (x1p : Option Addr) (x1n x1c : Nat) (x2p : Option Addr) (x2n x2c : Nat) : buildN Tryd.prog 59 [(0, .string x0), (1, .slice x1p x1n x1c), (2, .slice x2p x2n x2c)] = some [.string x0, .slice x1p x1n x1c, .slice x2p x2n x2c] := by kernel_rfl
theorem Fx.bsl55_1 (x00 x01 x02 : Value) : bslN Tryd.prog 55 1 [(0, .agg [x00, x01, x02].toArray)] = some (59, [x00, x01, x02]) := by kernel_rfl
end Go.Proofs.YtmbiojpcidccjaaDoor
/- Facts on types and functions. -/
namespace Go.Proofs.YtmbiojpcidccjaaDoor
open Go.RowKit Go.Par Go.Sx
theorem Fx.agg130 : aggN Tryd.prog 130 = Option.some Option.none := by kernel_rfl
theorem Fx.field132_2 : fieldN Tryd.prog 132 2 = Option.some 2 := by kernel_rfl
theorem Fx.field132_3 : fieldN Tryd.prog 132 3 = Option.some 3 := by kernel_rfl
theorem Fx.field144_0 : fieldN Tryd.prog 144 0 = Option.some 0 := by kernel_rfl
theorem Fx.row137 : rowN Tryd.prog 137 = Option.some (3, 1, 8) := by kernel_rfl
theorem Fx.bsl137_1 (x0 : Int) : bslN Tryd.prog 137 1 [(0, .int .i64 x0)] = some (3, [.int .i64 x0]) := by kernel_rfl
end Go.Proofs.YtmbiojpcidccjaaDoor
/- Facts on types and functions. -/
namespace Go.Proofs.YtmbiojpcidccjaaDoor
open Go.RowKit Go.Par Go.Sx
theorem Fx.call21 : callN Tryd.prog 21 = Bool.true := by kernel_rfl
theorem Fx.call38 : callN Tryd.prog 38 = Bool.true := by kernel_rfl
end Go.Proofs.YtmbiojpcidccjaaDoor
/- Contracts: EqualExpr. -/
namespace Go.Proofs.YtmbiojpcidccjaaDoor
open Go.RowKit Go.Par Go.Sx
/-- Whether a proposition holds. -/
noncomputable def eqP (p : Prop) : Bool := @decide p (Classical.propDecidable p)
theorem eqP_iff {p : Prop} : eqP p = true ↔ p := by unfold eqP; exact @decide_eq_true_iff p (Classical.propDecidable p)
theorem eqP_false {p : Prop} : eqP p = false ↔ ¬ p := ⟨fun h k => (by rw [eqP_iff.2 k] at h; cases h), fun h => (by cases e : eqP p with | false => rfl | true => exact absurd (eqP_iff.1 e) h)⟩
/-- The function compares two trees. -/
def EqAt (gf : FuncId) {α : Type} (d : α → D) (H : Hp) (a b : α) : Prop := ∀ (ca cb : List Value) (w : World), Rep H (d a) ca → Rep H (d b) cb → Agr H w → Calls Tryd.prog gf #[.agg ca.toArray, .agg cb.toArray] w fun r w' => r = .returned (.bool (eqP (a = b))) ∧ Ext w w'
theorem take_eq_succ {α : Type} {l m : List α} {k : Nat} (h : k < l.length) (h2 : k < m.length) (ht : l.take k = m.take k) (he : l[k] = m[k]) : l.take (k + 1) = m.take (k + 1) := by rw [take_snoc h, take_snoc h2, ht, he]
set_option maxRecDepth 100000 in
theorem eqFuncE (H : Hp) (gf : FuncId) (hgf : callN Tryd.prog gf = true) (l m : List Ex) (hq : ∀ a ∈ l, ∀ b, EqAt gf (dEx .u8) H a b) (v u : Value) (hs : Rep H (.seq 4 (l.map (dEx .u8))) [v]) (ht : Rep H (.seq 4 (m.map (dEx .u8))) [u]) (w : World) (hA : Agr H w) :
    Calls Tryd.prog 38 #[v, u, .func (.func gf) #[] #[]] w fun r w' => r = .returned (.bool (eqP (l = m))) ∧ Ext w w' := by
  obtain ⟨p, c, e, _⟩ := hs.sl
  simp only [List.cons.injEq, and_true, List.length_map] at e
  subst e
  obtain ⟨p2, c2, e, _⟩ := ht.sl
  simp only [List.cons.injEq, and_true, List.length_map] at e
  subst e
  have hcap := hs.cap
  have hcap2 := ht.cap
  refine Sx.enter (H := H) Tryd.func38 rfl Tryd.ntmps38 rfl hA ?_
  refine .sq <| .rg <| .a rfl rfl <| .nl <| .tN <| .sq <| .sq <| .rg <| .m rfl rfl <| .yv (.lenSl Fx.sl29 rfl) rfl <| .m rfl rfl <| .yv (.lenSl Fx.sl29 rfl) rfl <|
    .yv (.neq rfl rfl) rfl <| .nl <| .tN <| .cd rfl (fun h14 => ?_) (fun h14 => ?_)
  · try simp only [decide_eq_true_eq] at h14
    have hne : ¬ l = m := fun e => by rw [e] at h14; exact h14 rfl
    refine .sq <| .rg <| .a rfl rfl <| .nl <| .tN <| .rt <| .tR <| ?_
    refine Sx.ret1 (.inl rfl) rfl (.tmp rfl) fun W s => ⟨retB ?_, s.ext⟩
    first
      | (rw [eqP_iff]; exact ⟨fun h => (by cases h), fun h => absurd h hne⟩)
      | (rw [eqP_iff]; exact ⟨fun _ => heq, fun _ => rfl⟩)
  · try simp only [decide_eq_false_iff_not] at h14
    have hlen : l.length = m.length := by omega
    refine .sk <| .tN <| .sq <| .sq <| .rg <| .m rfl rfl <| .yv (.lenSl Fx.sl29 rfl) rfl <| .m rfl rfl <| .nl <| .tN <| .bk <| .lp (X := Nat) [(1, _), (2, _), (15, _), (16, _)] ⟨rfl, rfl, rfl, rfl, trivial⟩ [] (fun k => [(17, .int .i64 (k : Nat))]) (fun k => H) (fun k => []) (fun k => k ≤ l.length ∧ l.take k = m.take k) (fun k => l.length - k) 0 (fun _ s => s) ⟨rfl, trivial⟩ ⟨by omega, rfl⟩ fun k hC => ?_
    obtain ⟨hk0, hal⟩ := hC
    refine .sq <| .rg <| .yv (.lss rfl rfl) rfl <| .nl <| .tN <| .sq <| .cd rfl (fun h18 => ?_) (fun h18 => ?_)
    · try simp only [decide_eq_true_eq] at h18
      have hk : k < l.length := by omega
      have hkm : k < m.length := by omega
      obtain ⟨bE, oE, cE, hpE, rE, lE, mE⟩ := hs.elem (map_at hk)
      cases hpE
      obtain ⟨bF, oF, cF, hpF, rF, lF, mF⟩ := ht.elem (map_at hkm)
      cases hpF
      refine .sk <| .tN <| .sq <| .bk <| .sq <| .rg <| .m rfl rfl <| .yv (.indexSl Fx.sl29 rfl rfl rfl (by omega) (q := oE + k * 4) rfl) rfl <| .yv (.loadMW rfl Fx.agg31 mE lE) rfl <|
        .al Fx.zero31 rfl fun b8 => .a rfl rfl <| .sV .head rfl rfl Fx.size31 lE rE.one rfl <| .nl <| .tN <| .sq <| .rg <| .m rfl rfl <| .m rfl rfl <| .yv (.indexSl Fx.sl29 rfl rfl rfl (by omega) (q := oF + k * 4) rfl) rfl <|
        .yv (.loadMW rfl Fx.agg31 mF lF) rfl <| .al Fx.zero31 rfl fun b9 => .sV .head rfl rfl Fx.size31 lF rF.one rfl <| .nl <| .tN <| .sq <| .rg <| .m rfl rfl <| .yv (.loadW rfl Fx.agg31 (.tail _ <|
        .head _) lE) rfl <| .yv (.loadW rfl Fx.agg31 (.head _) lF) rfl <| .yv (.callV (fi := []) (ca := []) rfl hgf rfl (fun W s => hq _ (List.getElem_mem hk) _ cE cF W rE rF s.agr)) rfl <|
        .yv (.not rfl) rfl <| .nl <| .tN <| .cd rfl (fun h30 => ?_) (fun h30 => ?_)
      · try simp only [decide_eq_true_eq] at h30
        have hne : ¬ l = m := fun e => by subst e; rw [eqP_iff.2 rfl] at h30; cases h30
        refine .sq <| .rg <| .a rfl rfl <| .nl <| .tN <| .rt <| .bR <| .tR <| .tR <| .bR <| .tR <| ?_
        refine Sx.ret1 (.inl rfl) rfl (.tmp rfl) fun W s => ⟨retB ?_, s.ext⟩
        first
          | (rw [eqP_iff]; exact ⟨fun h => (by cases h), fun h => absurd h hne⟩)
          | (rw [eqP_iff]; exact ⟨fun _ => heq, fun _ => rfl⟩)
      · try simp only [decide_eq_false_iff_not] at h30
        have heq : l[k] = m[k] := eqP_iff.1 (by simpa using h30)
        exact .sk <| .bN <| .tN <| .rg <| .yv (.add rfl rfl (w64 (by omega) (by omega))) rfl <| .m rfl rfl <| .nl <| .tN <| .ag (k + 1) ⟨rfl, trivial⟩ ⟨rfl, rfl, rfl, rfl, trivial⟩ (fun _ s => s.pick [] [] rfl rfl) ⟨by omega, take_eq_succ hk hkm hal heq⟩ (by omega)
    · try simp only [decide_eq_false_iff_not] at h18
      have heq : l = m := by
        have e : k = l.length := by omega
        have e2 : k = m.length := by omega
        have h1 := hal
        rw [e, List.take_length, hlen, List.take_length] at h1
        exact h1
      refine .ex <| .tE <| .tE <| .bE <| .tN <| .sq <| .rg <| .a rfl rfl <| .nl <| .tN <| .rt <| ?_
      refine Sx.ret1 (.inl rfl) rfl (.tmp rfl) fun W s => ⟨retB ?_, s.ext⟩
      first
        | (rw [eqP_iff]; exact ⟨fun h => (by cases h), fun h => absurd h hne⟩)
        | (rw [eqP_iff]; exact ⟨fun _ => heq, fun _ => rfl⟩)
set_option maxRecDepth 100000 in
theorem equalExpr_any (H : Hp) (a : Ex) : ∀ b, EqAt 21 (dEx .u8) H a b := by
  induction a using Ex.ind with | _ op nm n args ih
  intro b ca cb w ha hb hA
  obtain ⟨op2, nm2, n2, args2⟩ := b
  obtain ⟨p, c, rfl, hs, hnm⟩ := ex_open ha
  obtain ⟨p2, c2, rfl, hs2, hnm2⟩ := ex_open hb
  refine Sx.enter (H := H) Tryd.func21 rfl Tryd.ntmps21 rfl hA ?_
  refine .sq <| .rg <| .bx rfl rfl rfl fun b2 => .bx rfl rfl rfl fun b3 => .a rfl rfl <| .nl <| .tN <| .sq <| .rg <| .yv (.fieldAddr rfl Fx.field31_0) rfl <| .yv (.load rfl Fx.agg28 (.tail _ <|
    .head _) rfl) rfl <| .yv (.fieldAddr rfl Fx.field31_0) rfl <| .yv (.load rfl Fx.agg28 (.head _) rfl) rfl <| .yv (.eql rfl rfl) rfl <| .m rfl rfl <| .b2 (fun h10 => ?_) (fun h10 => ?_)
  · try simp only [decide_eq_true_eq] at h10
    have e1 : op = op2 := UInt8.toNat_inj.1 (by omega)
    refine .gd rfl rfl <| .yv (.fieldAddr rfl Fx.field31_1) rfl <| .gd rfl rfl <| .yv (.load rfl Fx.agg9 (.tail _ <| .head _) rfl) rfl <| .gd rfl rfl <| .yv (.fieldAddr rfl Fx.field31_1) rfl <|
      .gd rfl rfl <| .yv (.load rfl Fx.agg9 (.head _) rfl) rfl <| .gd rfl rfl <| .yv (.eqS rfl rfl) rfl <| .yv (.pickT rfl rfl) rfl <| .m rfl rfl <| .b2 (fun h17 => ?_) (fun h17 => ?_)
    · try simp only [decide_eq_true_eq] at h17
      have e2 : nm = nm2 := h17
      refine .gd rfl rfl <| .yv (.fieldAddr rfl Fx.field31_2) rfl <| .gd rfl rfl <| .yv (.load rfl Fx.agg2 (.tail _ <| .head _) rfl) rfl <| .gd rfl rfl <| .yv (.fieldAddr rfl Fx.field31_2) rfl <|
        .gd rfl rfl <| .yv (.load rfl Fx.agg2 (.head _) rfl) rfl <| .gd rfl rfl <| .yv (.eql rfl rfl) rfl <| .yv (.pickT rfl rfl) rfl <| .m rfl rfl <| .b2 (fun h24 => ?_) (fun h24 => ?_)
      · try simp only [decide_eq_true_eq] at h24
        have e3 : n = n2 := Int64.toInt_inj.1 h24
        refine .gd rfl rfl <| .yv (.fieldAddr rfl Fx.field31_3) rfl <| .gd rfl rfl <| .yv (.load rfl Fx.agg29 (.tail _ <| .head _) rfl) rfl <| .gd rfl rfl <| .yv (.fieldAddr rfl Fx.field31_3) rfl <|
          .gd rfl rfl <| .yv (.load rfl Fx.agg29 (.head _) rfl) rfl <| .gd rfl rfl <| .yv (.call Fx.call38 rfl (fun W s => eqFuncE H 21 Fx.call21 args args2 ih _ _ hs hs2 W s.agr)) rfl <|
          .yv (.pickT rfl rfl) rfl <| .a rfl rfl <| .nl <| .tN <| .rt <| ?_
        refine Sx.ret1 (.inl rfl) rfl (.tmp rfl) fun W s => ⟨retB ?_, s.ext⟩
        first
          | (rw [eqP_iff, eqP_iff, Ex.mk.injEq]; exact ⟨fun d => ⟨e1, e2, e3, d⟩, fun h => h.2.2.2⟩)
          | (rw [eqP_iff, Ex.mk.injEq]; exact ⟨fun h => (by cases h), fun h => absurd h.1 e1⟩)
          | (rw [eqP_iff, Ex.mk.injEq]; exact ⟨fun h => (by cases h), fun h => absurd h.2.1 e2⟩)
          | (rw [eqP_iff, Ex.mk.injEq]; exact ⟨fun h => (by cases h), fun h => absurd h.2.2.1 e3⟩)
      · try simp only [decide_eq_false_iff_not] at h24
        have e3 : ¬ n = n2 := fun e => h24 (by rw [e])
        refine .gF rfl rfl rfl rfl <| .gF rfl rfl rfl rfl <| .gF rfl rfl rfl rfl <| .gF rfl rfl rfl rfl <| .gF rfl rfl rfl rfl <| .yv (.pickF rfl rfl) rfl <| .a rfl rfl <|
          .nl <| .tN <| .rt <| ?_
        refine Sx.ret1 (.inl rfl) rfl (.tmp rfl) fun W s => ⟨retB ?_, s.ext⟩
        first
          | (rw [eqP_iff, eqP_iff, Ex.mk.injEq]; exact ⟨fun d => ⟨e1, e2, e3, d⟩, fun h => h.2.2.2⟩)
          | (rw [eqP_iff, Ex.mk.injEq]; exact ⟨fun h => (by cases h), fun h => absurd h.1 e1⟩)
          | (rw [eqP_iff, Ex.mk.injEq]; exact ⟨fun h => (by cases h), fun h => absurd h.2.1 e2⟩)
          | (rw [eqP_iff, Ex.mk.injEq]; exact ⟨fun h => (by cases h), fun h => absurd h.2.2.1 e3⟩)
    · try simp only [decide_eq_false_iff_not] at h17
      have e2 : ¬ nm = nm2 := h17
      refine .gF rfl rfl rfl rfl <| .gF rfl rfl rfl rfl <| .gF rfl rfl rfl rfl <| .gF rfl rfl rfl rfl <| .gF rfl rfl rfl rfl <| .yv (.pickF rfl rfl) rfl <| .m rfl rfl <|
        .gF rfl rfl rfl rfl <| .gF rfl rfl rfl rfl <| .gF rfl rfl rfl rfl <| .gF rfl rfl rfl rfl <| .gF rfl rfl rfl rfl <| .yv (.pickF rfl rfl) rfl <| .a rfl rfl <| .nl <|
        .tN <| .rt <| ?_
      refine Sx.ret1 (.inl rfl) rfl (.tmp rfl) fun W s => ⟨retB ?_, s.ext⟩
      first
        | (rw [eqP_iff, eqP_iff, Ex.mk.injEq]; exact ⟨fun d => ⟨e1, e2, e3, d⟩, fun h => h.2.2.2⟩)
        | (rw [eqP_iff, Ex.mk.injEq]; exact ⟨fun h => (by cases h), fun h => absurd h.1 e1⟩)
        | (rw [eqP_iff, Ex.mk.injEq]; exact ⟨fun h => (by cases h), fun h => absurd h.2.1 e2⟩)
        | (rw [eqP_iff, Ex.mk.injEq]; exact ⟨fun h => (by cases h), fun h => absurd h.2.2.1 e3⟩)
  · try simp only [decide_eq_false_iff_not] at h10
    have e1 : ¬ op = op2 := fun e => h10 (by rw [e])
    refine .gF rfl rfl rfl rfl <| .gF rfl rfl rfl rfl <| .gF rfl rfl rfl rfl <| .gF rfl rfl rfl rfl <| .gF rfl rfl rfl rfl <| .yv (.pickF rfl rfl) rfl <| .m rfl rfl <|
      .gF rfl rfl rfl rfl <| .gF rfl rfl rfl rfl <| .gF rfl rfl rfl rfl <| .gF rfl rfl rfl rfl <| .gF rfl rfl rfl rfl <| .yv (.pickF rfl rfl) rfl <| .m rfl rfl <| .gF rfl rfl rfl rfl <|
      .gF rfl rfl rfl rfl <| .gF rfl rfl rfl rfl <| .gF rfl rfl rfl rfl <| .gF rfl rfl rfl rfl <| .yv (.pickF rfl rfl) rfl <| .a rfl rfl <| .nl <| .tN <| .rt <| ?_
    refine Sx.ret1 (.inl rfl) rfl (.tmp rfl) fun W s => ⟨retB ?_, s.ext⟩
    first
      | (rw [eqP_iff, eqP_iff, Ex.mk.injEq]; exact ⟨fun d => ⟨e1, e2, e3, d⟩, fun h => h.2.2.2⟩)
      | (rw [eqP_iff, Ex.mk.injEq]; exact ⟨fun h => (by cases h), fun h => absurd h.1 e1⟩)
      | (rw [eqP_iff, Ex.mk.injEq]; exact ⟨fun h => (by cases h), fun h => absurd h.2.1 e2⟩)
      | (rw [eqP_iff, Ex.mk.injEq]; exact ⟨fun h => (by cases h), fun h => absurd h.2.2.1 e3⟩)
end Go.Proofs.YtmbiojpcidccjaaDoor
/- Plain: the grammar of expressions over tokens, and that the canonical text of a good tree is read back. -/
namespace Go.Proofs.YtmbiojpcidccjaaDoor
/-- What a rule hands back: a value and the tokens behind it, or an error at a place. -/
inductive Rs (α : Type) where
  | ok (a : α) (r : List Tk)
  | er (r : List Tk) (code : Nat)
def Rs.bind {α β : Type} (x : Rs α) (f : α → List Tk → Rs β) : Rs β := match x with | .ok a r => f a r | .er r c => .er r c
/-- The token ahead is this keyword or symbol. -/
def isT (w : Str) : List Tk → Bool
  | [] => false
  | t :: _ => (t.k == 2 || t.k == 4) && decide (t.t = w)
def needT {α : Type} (w : Str) (r : List Tk) (f : List Tk → Rs α) : Rs α := if isT w r then f r.tail else .er r 8
def nameT {α : Type} (r : List Tk) (f : Str → List Tk → Rs α) : Rs α := match r with | [] => .er r 8 | t :: q => if t.k = 1 then f t.t q else .er r 8
def numV (s : Str) : Nat := s.foldl (fun v c => 10 * v + (c.toNat - 48)) 0
def opsL : Nat → List (Str × UInt8)
  | 0 => [([111, 114], 23)]
  | 1 => [([97, 110, 100], 22)]
  | 2 => [([61, 61], 16), ([33, 61], 17), ([60], 18), ([60, 61], 19), ([62], 20), ([62, 61], 21)]
  | 3 => [([43], 14), ([45], 15)]
  | _ => [([42], 11), ([47], 12), ([37], 13)]
def opAt (lv : Nat) (r : List Tk) : Option UInt8 := ((opsL lv).find? fun x => isT x.1 r).map (·.2)
inductive Md where
  | ex (lv : Nat)
  | lp (lv : Nat) (a : Ex)
def opE (op : UInt8) (l : List Ex) : Ex := .mk op [] 0 l
def primE (rec : List Tk → Rs Ex) (r : List Tk) : Rs Ex :=
  match r with
  | [] => .er r 8
  | t :: q =>
    if t.k = 3 then (if numV t.t ≤ 9223372036854775807 then .ok (.mk 1 [] (Int64.ofNat (numV t.t)) []) q else .er r 2)
    else if isT [116, 114, 117, 101] r then .ok (opE 2 []) q
    else if isT [102, 97, 108, 115, 101] r then .ok (opE 3 []) q
    else if isT [110, 111, 119] r then .ok (opE 4 []) q
    else if isT [115, 105, 122, 101] r then nameT q fun s r2 => .ok (.mk 8 s 0 []) r2
    else if isT [40] r then (rec q).bind fun x r2 => needT [41] r2 fun r3 => .ok x r3
    else if isT [104, 97, 115] r then nameT q fun s r2 => needT [91] r2 fun r3 => (rec r3).bind fun x r4 => needT [93] r4 fun r5 => .ok (.mk 7 s 0 [x]) r5
    else if t.k = 1 then (if isT [91] q then (rec q.tail).bind fun x r4 => needT [93] r4 fun r5 => .ok (.mk 6 t.t 0 [x]) r5 else .ok (.mk 5 t.t 0 []) q)
    else .er r 8
/-- The rules expr (level 0), conj, comp, sum, product (level 4), unary (level 5), and what goes on behind an operand. -/
def pE : Nat → Md → List Tk → Rs Ex
  | 0, _, r => .er r 99
  | f + 1, .ex lv, r =>
    if lv < 5 then (pE f (.ex (lv + 1)) r).bind fun a r1 => pE f (.lp lv a) r1
    else if isT [45] r then (pE f (.ex 5) r.tail).bind fun x r2 => .ok (opE 9 [x]) r2
    else if isT [110, 111, 116] r then (pE f (.ex 5) r.tail).bind fun x r2 => .ok (opE 10 [x]) r2
    else primE (pE f (.ex 0)) r
  | f + 1, .lp lv a, r =>
    match opAt lv r with
    | none => .ok a r
    | some op => (pE f (.ex (lv + 1)) r.tail).bind fun b r2 => if lv = 2 then .ok (opE op [a, b]) r2 else pE f (.lp lv (opE op [a, b])) r2
/-! ### Enough fuel -/
theorem ifC {α : Type} {c : Prop} [Decidable c] {x y u v : α} (h1 : x = u) (h2 : y = v) : (if c then x else y) = (if c then u else v) := by rw [h1, h2]
theorem ifI {α : Type} {c d : Prop} [Decidable c] [Decidable d] {x y : α} (h : c ↔ d) : (if c then x else y) = (if d then x else y) := by
  by_cases e : c
  · rw [if_pos e, if_pos (h.1 e)]
  · rw [if_neg e, if_neg (fun k => e (h.2 k))]
theorem isT_ne {w : Str} {r : List Tk} (h : isT w r = true) : r.length = r.tail.length + 1 := by cases r with | nil => cases h | cons t q => rfl
theorem opAt_ne {lv : Nat} {r : List Tk} {op : UInt8} (h : opAt lv r = some op) : r.length = r.tail.length + 1 := by
  unfold opAt at h
  obtain ⟨x, hx, _⟩ := Option.map_eq_some_iff.1 h
  exact isT_ne (w := x.1) (by have := List.find?_some hx; exact this)
theorem Rs.bind_ok {α β : Type} {x : Rs α} {f : α → List Tk → Rs β} {b : β} {r : List Tk} (h : x.bind f = .ok b r) : ∃ a q, x = .ok a q ∧ f a q = .ok b r := by
  cases x with
  | ok a q => exact ⟨a, q, rfl, h⟩
  | er q c => cases h
theorem needT_ok {α : Type} {w : Str} {r : List Tk} {f : List Tk → Rs α} {a : α} {q : List Tk} (h : needT w r f = .ok a q) : isT w r = true ∧ f r.tail = .ok a q := by
  unfold needT at h
  split at h
  · rename_i e; exact ⟨e, h⟩
  · cases h
theorem nameT_ok {α : Type} {r : List Tk} {f : Str → List Tk → Rs α} {a : α} {q : List Tk} (h : nameT r f = .ok a q) : ∃ t r', r = t :: r' ∧ t.k = 1 ∧ f t.t r' = .ok a q := by
  unfold nameT at h
  cases r with
  | nil => cases h
  | cons t r' =>
    by_cases e : t.k = 1
    · simp only [e, if_true] at h; exact ⟨t, r', rfl, e, h⟩
    · simp only [e, if_false] at h; cases h
theorem primE_len {rec : List Tk → Rs Ex} (hr : ∀ q a r', rec q = .ok a r' → r'.length ≤ q.length) {r : List Tk} {a : Ex} {r' : List Tk} (h : primE rec r = .ok a r') : r'.length < r.length := by
  unfold primE at h
  cases r with
  | nil => cases h
  | cons t q =>
    simp only at h
    have fin : ∀ {b : Ex} {l : List Tk}, (Rs.ok b l : Rs Ex) = .ok a r' → l.length ≤ q.length → r'.length < (t :: q).length := by
      intro b l e hl; injection e with _ e; subst e; simp; omega
    split at h
    · split at h
      · exact fin h (Nat.le_refl _)
      · cases h
    split at h
    · exact fin h (Nat.le_refl _)
    split at h
    · exact fin h (Nat.le_refl _)
    split at h
    · exact fin h (Nat.le_refl _)
    split at h
    · obtain ⟨t2, r2, rfl, _, h⟩ := nameT_ok h
      exact fin h (by simp)
    split at h
    · obtain ⟨x, r2, h1, h⟩ := Rs.bind_ok h
      obtain ⟨h2, h⟩ := needT_ok h
      have := hr _ _ _ h1
      have := isT_ne h2
      exact fin h (by omega)
    split at h
    · obtain ⟨t2, r2, rfl, _, h⟩ := nameT_ok h
      obtain ⟨h2, h⟩ := needT_ok h
      obtain ⟨x, r4, h1, h⟩ := Rs.bind_ok h
      obtain ⟨h3, h⟩ := needT_ok h
      have := hr _ _ _ h1
      have := isT_ne h2
      have := isT_ne h3
      exact fin h (by simp; omega)
    split at h
    · split at h
      · rename_i h2
        obtain ⟨x, r4, h1, h⟩ := Rs.bind_ok h
        obtain ⟨h3, h⟩ := needT_ok h
        have := hr _ _ _ h1
        have := isT_ne h2
        have := isT_ne h3
        exact fin h (by omega)
      · exact fin h (Nat.le_refl _)
    · cases h
theorem pE_len : ∀ (f : Nat), (∀ lv r a r', pE f (.ex lv) r = .ok a r' → r'.length < r.length) ∧ (∀ lv x r a r', pE f (.lp lv x) r = .ok a r' → r'.length ≤ r.length)
  | 0 => ⟨fun _ _ _ _ h => (by cases h), fun _ _ _ _ _ h => (by cases h)⟩
  | f + 1 => by
    obtain ⟨ih1, ih2⟩ := pE_len f
    refine ⟨fun lv r a r' h => ?_, fun lv x r a r' h => ?_⟩
    · unfold pE at h
      split at h
      · obtain ⟨b, q, h1, h2⟩ := Rs.bind_ok h
        have := ih1 _ _ _ _ h1
        have := ih2 _ _ _ _ _ h2
        omega
      split at h
      · rename_i e
        obtain ⟨b, q, h1, h2⟩ := Rs.bind_ok h
        have := ih1 _ _ _ _ h1
        have := isT_ne e
        injection h2 with _ e2; subst e2; omega
      split at h
      · rename_i e
        obtain ⟨b, q, h1, h2⟩ := Rs.bind_ok h
        have := ih1 _ _ _ _ h1
        have := isT_ne e
        injection h2 with _ e2; subst e2; omega
      · exact primE_len (fun q b r2 e => Nat.le_of_lt (ih1 _ _ _ _ e)) h
    · unfold pE at h
      split at h
      · injection h with _ e; subst e; exact Nat.le_refl _
      · rename_i op e
        obtain ⟨b, q, h1, h2⟩ := Rs.bind_ok h
        have := ih1 _ _ _ _ h1
        have := opAt_ne e
        split at h2
        · injection h2 with _ e2; subst e2; omega
        · have := ih2 _ _ _ _ _ h2
          omega
theorem Rs.bind_congr {α β : Type} {x y : Rs α} {f g : α → List Tk → Rs β} (h : x = y) (k : ∀ a r, x = .ok a r → f a r = g a r) : x.bind f = y.bind g := by
  subst h
  cases x with
  | ok a r => exact k a r rfl
  | er r c => rfl
theorem primE_congr {rec rec' : List Tk → Rs Ex} {r : List Tk} (h : ∀ q, q.length < r.length → rec q = rec' q) : primE rec r = primE rec' r := by
  unfold primE
  cases r with
  | nil => rfl
  | cons t q =>
    have hb : ∀ (z : List Tk) (g : Ex → List Tk → Rs Ex), z.length ≤ q.length → (rec z).bind g = (rec' z).bind g := fun z g hz => by rw [h z (by simp; omega)]
    have ht : ∀ z : List Tk, z.tail.length ≤ z.length := fun z => by simp
    simp only
    rw [hb q _ (Nat.le_refl _), hb q.tail _ (ht q)]
    refine ifC rfl (ifC rfl (ifC rfl (ifC rfl (ifC rfl (ifC rfl (ifC ?_ rfl))))))
    unfold nameT
    cases q with
    | nil => rfl
    | cons t2 r2 =>
      simp only
      refine ifC ?_ rfl
      unfold needT
      refine ifC ?_ rfl
      exact hb _ _ (by simp; omega)
def fuelE : Md → List Tk → Nat
  | .ex lv, r => 16 * r.length + 9 - lv
  | .lp _ _, r => 16 * r.length + 9
theorem pE_ex (f lv : Nat) (r : List Tk) : pE (f + 1) (.ex lv) r = if lv < 5 then (pE f (.ex (lv + 1)) r).bind fun a r1 => pE f (.lp lv a) r1
    else if isT [45] r then (pE f (.ex 5) r.tail).bind fun x r2 => .ok (opE 9 [x]) r2
    else if isT [110, 111, 116] r then (pE f (.ex 5) r.tail).bind fun x r2 => .ok (opE 10 [x]) r2
    else primE (pE f (.ex 0)) r := by rw [pE]
theorem pE_lp (f lv : Nat) (a : Ex) (r : List Tk) : pE (f + 1) (.lp lv a) r = match opAt lv r with
    | none => .ok a r
    | some op => (pE f (.ex (lv + 1)) r.tail).bind fun b r2 => if lv = 2 then .ok (opE op [a, b]) r2 else pE f (.lp lv (opE op [a, b])) r2 := by rw [pE]
theorem pE_fuel : ∀ (f : Nat), (∀ lv r, lv ≤ 5 → fuelE (.ex lv) r ≤ f → pE (f + 1) (.ex lv) r = pE f (.ex lv) r) ∧ (∀ lv x r, lv ≤ 4 → fuelE (.lp lv x) r ≤ f → pE (f + 1) (.lp lv x) r = pE f (.lp lv x) r)
  | 0 => ⟨fun lv r h1 h => by simp only [fuelE] at h; omega, fun lv x r h1 h => by simp only [fuelE] at h; omega⟩
  | f + 1 => by
    obtain ⟨ih1, ih2⟩ := pE_fuel f
    simp only [fuelE] at ih1 ih2 ⊢
    refine ⟨fun lv r h5 h => ?_, fun lv x r h4 h => ?_⟩
    · rw [pE_ex (f + 1) lv r, pE_ex f lv r]
      by_cases hlv : lv < 5
      · rw [if_pos hlv, if_pos hlv]
        refine Rs.bind_congr (ih1 _ _ (by omega) (by omega)) fun a q e => ?_
        have := (pE_len (f + 1)).1 _ _ _ _ e
        exact ih2 _ _ _ (by omega) (by omega)
      rw [if_neg hlv, if_neg hlv]
      by_cases e : isT [45] r = true
      · have := isT_ne e
        rw [if_pos e, if_pos e]
        exact Rs.bind_congr (ih1 _ _ (by omega) (by omega)) fun _ _ _ => rfl
      rw [if_neg e, if_neg e]
      by_cases e : isT [110, 111, 116] r = true
      · have := isT_ne e
        rw [if_pos e, if_pos e]
        exact Rs.bind_congr (ih1 _ _ (by omega) (by omega)) fun _ _ _ => rfl
      rw [if_neg e, if_neg e]
      exact primE_congr fun q hq => ih1 _ _ (by omega) (by omega)
    · rw [pE_lp (f + 1) lv x r, pE_lp f lv x r]
      cases e : opAt lv r with
      | none => rfl
      | some op =>
        simp only
        have := opAt_ne e
        refine Rs.bind_congr (ih1 _ _ (by omega) (by omega)) fun a q e => ?_
        have := (pE_len (f + 1)).1 _ _ _ _ e
        refine ifC rfl ?_
        exact ih2 _ _ _ (by omega) (by omega)
theorem pE_more {f g lv : Nat} {r : List Tk} (h5 : lv ≤ 5) (h : fuelE (.ex lv) r ≤ f) (hg : f ≤ g) : pE g (.ex lv) r = pE f (.ex lv) r := by
  induction g with
  | zero => have : f = 0 := by omega
            rw [this]
  | succ g ih =>
    by_cases e : f = g + 1
    · rw [e]
    · rw [(pE_fuel g).1 lv r h5 (by omega)]; exact ih (by omega)
theorem pE_morel {f g lv : Nat} {a : Ex} {r : List Tk} (h5 : lv ≤ 4) (h : fuelE (.lp lv a) r ≤ f) (hg : f ≤ g) : pE g (.lp lv a) r = pE f (.lp lv a) r := by
  induction g with
  | zero => have : f = 0 := by omega
            rw [this]
  | succ g ih =>
    by_cases e : f = g + 1
    · rw [e]
    · rw [(pE_fuel g).2 lv a r h5 (by omega)]; exact ih (by omega)
/-- The rules with enough fuel. -/
def pX (lv : Nat) (r : List Tk) : Rs Ex := pE (16 * r.length + 9) (.ex lv) r
def pL (lv : Nat) (a : Ex) (r : List Tk) : Rs Ex := pE (16 * r.length + 9) (.lp lv a) r
theorem pX_of {f lv : Nat} {r : List Tk} (h5 : lv ≤ 5) (h : fuelE (.ex lv) r ≤ f) : pE f (.ex lv) r = pX lv r := by
  unfold pX
  rcases Nat.le_total f (16 * r.length + 9) with h1 | h1
  · rw [pE_more h5 h h1]
  · rw [pE_more h5 (by simp only [fuelE]; omega) h1]
theorem pL_of {f lv : Nat} {a : Ex} {r : List Tk} (h5 : lv ≤ 4) (h : fuelE (.lp lv a) r ≤ f) : pE f (.lp lv a) r = pL lv a r := by
  unfold pL
  rcases Nat.le_total f (16 * r.length + 9) with h1 | h1
  · rw [pE_morel h5 h h1]
  · rw [pE_morel h5 (by simp only [fuelE]; omega) h1]
theorem pX_low {lv : Nat} {r : List Tk} (h : lv < 5) : pX lv r = (pX (lv + 1) r).bind fun a q => pL lv a q := by
  conv => lhs; unfold pX
  rw [show 16 * r.length + 9 = (16 * r.length + 8) + 1 by omega, pE_ex, if_pos h]
  refine Rs.bind_congr (pX_of (by omega) (by simp only [fuelE]; omega)) fun a q e => ?_
  have := (pE_len _).1 _ _ _ _ e
  exact pL_of (by omega) (by simp only [fuelE]; omega)
theorem pX_un {r : List Tk} : pX 5 r = if isT [45] r then (pX 5 r.tail).bind fun x r2 => .ok (opE 9 [x]) r2 else if isT [110, 111, 116] r then (pX 5 r.tail).bind fun x r2 => .ok (opE 10 [x]) r2 else primE (pX 0) r := by
  conv => lhs; unfold pX
  rw [show 16 * r.length + 9 = (16 * r.length + 8) + 1 by omega, pE_ex, if_neg (by omega)]
  by_cases e : isT [45] r = true
  · have := isT_ne e
    rw [if_pos e, if_pos e]
    exact Rs.bind_congr (pX_of (by omega) (by simp only [fuelE]; omega)) fun _ _ _ => rfl
  rw [if_neg e, if_neg e]
  by_cases e : isT [110, 111, 116] r = true
  · have := isT_ne e
    rw [if_pos e, if_pos e]
    exact Rs.bind_congr (pX_of (by omega) (by simp only [fuelE]; omega)) fun _ _ _ => rfl
  rw [if_neg e, if_neg e]
  exact primE_congr fun q hq => pX_of (by omega) (by simp only [fuelE]; omega)
theorem pL_none {lv : Nat} {a : Ex} {r : List Tk} (h : opAt lv r = none) : pL lv a r = .ok a r := by
  unfold pL
  rw [show 16 * r.length + 9 = (16 * r.length + 8) + 1 by omega, pE_lp]
  rw [h]
theorem pL_some {lv : Nat} {a : Ex} {r : List Tk} {op : UInt8} (hl : lv ≤ 4) (h : opAt lv r = some op) : pL lv a r = (pX (lv + 1) r.tail).bind fun b r2 => if lv = 2 then .ok (opE op [a, b]) r2 else pL lv (opE op [a, b]) r2 := by
  conv => lhs; unfold pL
  rw [show 16 * r.length + 9 = (16 * r.length + 8) + 1 by omega, pE_lp]
  rw [h]
  have := opAt_ne h
  refine Rs.bind_congr (pX_of (by omega) (by simp only [fuelE]; omega)) fun b q e => ?_
  have := (pE_len _).1 _ _ _ _ e
  refine ifC rfl ?_
  exact pL_of hl (by simp only [fuelE]; omega)
end Go.Proofs.YtmbiojpcidccjaaDoor
/- Plain: decimal numerals are read back; the first instance of a byte. -/
namespace Go.Plain
open Go.Lib

theorem digits_more (x : Nat) (h : ¬ x < 10) : decDigits x = decDigits (x / 10) ++ [UInt8.ofNat (48 + x % 10)] := by
  rw [decDigits, dif_neg h]
theorem digit_nat (d : Nat) (h : d < 10) : (UInt8.ofNat (48 + d)).toNat = 48 + d := by
  rw [UInt8.toNat_ofNat']; omega
theorem digits_are : ∀ (u : Nat) (c : UInt8), c ∈ decDigits u → 48 ≤ c.toNat ∧ c.toNat ≤ 57 := by
  intro u
  induction u using Nat.strongRecOn with
  | _ u ih =>
    intro c hc
    by_cases h : u < 10
    · rw [decDigits_one h] at hc
      obtain rfl := List.mem_singleton.1 hc
      rw [digit_nat u h]; omega
    · rw [digits_more u h] at hc
      rcases List.mem_append.1 hc with hc | hc
      · exact ih (u / 10) (by omega) c hc
      · obtain rfl := List.mem_singleton.1 hc
        rw [digit_nat (u % 10) (by omega)]; omega
theorem digits_ne (u : Nat) : decDigits u ≠ [] := by
  intro h
  have := decDigits_length u
  rw [h] at this
  have := nDigits_pos u
  simp at *
  omega
theorem pm_append (M : Nat) (r : List UInt8) : ∀ (l : List UInt8) (acc : Nat), parseUintM M acc (l ++ r) = match parseUintM M acc l with | .ok a => parseUintM M a r | e => e
  | [], acc => by simp [parseUintM]
  | c :: l, acc => by
    simp only [List.cons_append, parseUintM]
    split
    · split
      · rfl
      · split
        · rfl
        · exact pm_append M r l _
    · rfl
theorem pm_digits (M : Nat) (hM : M < 18446744073709551616) : ∀ (u : Nat), u ≤ M → parseUintM M 0 (decDigits u) = .ok u := by
  intro u
  induction u using Nat.strongRecOn with
  | _ u ih =>
    intro hu
    by_cases h : u < 10
    · rw [decDigits_one h]
      simp only [parseUintM, digit_nat u h]
      rw [if_pos (by omega), if_neg (by omega), if_neg (by omega)]
      congr 1; omega
    · rw [digits_more u h, pm_append, ih (u / 10) (by omega) (by omega)]
      simp only [parseUintM, digit_nat (u % 10) (by omega)]
      rw [if_pos (by omega), if_neg (by omega), if_neg (by omega)]
      congr 1; omega
theorem parseUint_digits (u : Nat) (hu : u < 18446744073709551616) : parseUintB 64 (decDigits u) = .ok u := by
  rw [parseUintB, if_neg (digits_ne u)]
  exact pm_digits _ (by decide) u (by omega)
theorem parseInt_itoa (n : Int) (h0 : -9223372036854775808 ≤ n) (h1 : n ≤ 9223372036854775807) : parseIntB 64 (itoa n) = .ok n := by
  unfold itoa
  by_cases h : n < 0
  · rw [if_pos h, parseIntB]
    simp only [show (45 : UInt8).toNat = 45 from rfl, or_true, if_true]
    rw [parseUint_digits _ (by omega)]
    simp only []
    rw [if_neg (by simp), if_neg (by simp; omega)]
    congr 1; omega
  · rw [if_neg h]
    obtain ⟨c, r, hc⟩ : ∃ c r, decDigits n.toNat = c :: r := by
      cases hd : decDigits n.toNat with
      | nil => exact absurd hd (digits_ne _)
      | cons c r => exact ⟨c, r, rfl⟩
    have hcd := digits_are n.toNat c (by rw [hc]; simp)
    have hp := parseUint_digits n.toNat (by omega)
    rw [hc] at hp ⊢
    rw [parseIntB]
    rw [if_neg (by omega), hp]
    simp only []
    rw [if_neg (by simp; omega), if_neg (by omega), if_neg (by omega)]
    congr 1; omega
theorem index_none (x : UInt8) : ∀ l : List UInt8, x ∉ l → index l [x] = -1
  | [], _ => by simp [index]
  | c :: l, h => by
    have h1 : x ≠ c := fun e => h (by simp [e])
    have h2 := index_none x l (fun e => h (by simp [e]))
    simp [index, h1, h2]
theorem index_at (x : UInt8) (r : List UInt8) : ∀ l : List UInt8, x ∉ l → index (l ++ x :: r) [x] = l.length
  | [], _ => by simp [index]
  | c :: l, h => by
    have h1 : x ≠ c := fun e => h (by simp [e])
    have h2 := index_at x r l (fun e => h (by simp [e]))
    simp [index, h1, h2]
theorem cut_none (x : UInt8) (l : List UInt8) (h : x ∉ l) : cut l [x] = (l, [], false) := by
  rw [cut, index_none x l h, if_neg (by omega)]
theorem cut_at (x : UInt8) (l r : List UInt8) (h : x ∉ l) : cut (l ++ x :: r) [x] = (l, r, true) := by
  rw [cut, index_at x r l h, if_pos (by omega)]
  simp
theorem itoa_no (n : Int) (x : UInt8) (h1 : x.toNat ≠ 45) (h2 : ¬ (48 ≤ x.toNat ∧ x.toNat ≤ 57)) : x ∉ itoa n := by
  intro hx
  unfold itoa at hx
  split at hx
  · rcases List.mem_cons.1 hx with rfl | hx
    · exact h1 rfl
    · exact h2 (digits_are _ _ hx)
  · exact h2 (digits_are _ _ hx)
theorem itoa_ne (n : Int) : itoa n ≠ [] := by
  unfold itoa
  split
  · simp
  · exact digits_ne _
end Go.Plain
