/- Texts of the proof, one behind the other. -/
import Derived.Test.YtmbiojpcidccjaaGreatDoorMc
import Derived.ProofKit
import Derived.Lib.LaidTab
import Derived.Deep.Slices
import Derived.Deep.Fields
import Derived.OpenShut
import Derived.ChangeKeysEq
set_option linter.all false
namespace Go.Proofs.YtmbiojpcidccjaaGreatDoor
open Go.RowKit Go.Par Go.Sx
def goodE (d : Nat) (e : Ex) : Prop := e.depth + d ≤ 32 ∧ Ex.all narrow e = true
def goodEs (d : Nat) (l : List Ex) : Prop := Ex.deeps l + (d + 1) ≤ 32 ∧ Ex.alls narrow l = true
theorem goodE_leaf {d : Nat} {op : UInt8} {nm : Str} {n : Int64} (h : d ≤ 31) : goodE d (.mk op nm n []) := ⟨by rw [depth_mk];simp only [Ex.deeps];omega,by rw [all_mk,narrow_mk];rfl⟩
theorem goodE_mk {d : Nat} {op : UInt8} {nm : Str} {n : Int64} {l : List Ex} : goodE d (.mk op nm n l) ↔ l.length ≤ 3 ∧ goodEs d l := by
 simp only [goodE,goodEs,depth_mk,all_mk,narrow_mk,Bool.and_eq_true,decide_eq_true_eq]
 constructor
 ·rintro ⟨h1,h2,h3⟩;exact ⟨h2,by omega,h3⟩
 ·rintro ⟨h1,h2,h3⟩;exact ⟨by omega,h1,h3⟩
theorem goodEs_nil (d : Nat) (h : d + 1 ≤ 32 := by omega) : goodEs d [] := ⟨by simp only [Ex.deeps];omega,rfl⟩
theorem goodEs_snoc {d : Nat} {l : List Ex} {e : Ex} (h : goodEs d l) (k : goodE (d + 1) e) : goodEs d (l ++ [e]) := by
 obtain ⟨h1,h2⟩ := h
 obtain ⟨k1,k2⟩ := k
 refine ⟨?_,?_⟩
 ·rw [deeps_app];simp only [Ex.deeps];omega
 ·rw [alls_app,h2];simp [Ex.alls,k2]
set_option maxRecDepth 100000 in
theorem build_any : ∀ (f d : Nat),d + f = 31 → ∀ (H : Hp) (l : List Nd) (v : Value) (w : World),Rep H (.seq 5 (l.map dNd)) [v] → Agr H w →
 Calls Tryz.prog 49 #[v,.int .i64 (d : Nat)] w fun r w' => ∃ (y : List Value × Value) (H' : Hp),(∃ (e : Ex) (rest : List Nd),Rep H' (dEx .i64 e) y.1 ∧ goodE d e ∧ Rep H' (.seq 5 (rest.map dNd)) [y.2]) ∧ r = .returned (.tuple #[.agg y.1.toArray,y.2]) ∧ Grow H w H' w' := by
 intro f
 induction f using Nat.strongRecOn with
 | _ f ih =>
  intro d hd H l v w h hA
  obtain ⟨p,c,e,_⟩ := h.sl
  simp only [List.cons.injEq,and_true] at e
  subst e
  obtain ⟨n,hn⟩ : ∃ n,n = (l.map dNd).length := ⟨_,rfl⟩
  rw [← hn] at h ⊢
  have hnl : n = l.length := by simpa using hn
  have hcap := h.cap
  refine Sx.enter (H := H) Tryz.func49 rfl Tryz.ntmps49 rfl hA ?_
  refine .sr<|.al Fx.zero51 Z fun b4 => .a Z Z<|.nt<|.sq<|.sr<|.m Z Z<|.yv (.lenSl Fx.sl53 Z) Z<|.yv (.eql Z Z) Z<|.m Z Z<|.b2 (fun h15 => ?_) (fun h15 => ?_)
  ·try simp only [dt] at h15
   refine .gF Z Z Z Z<|.gF Z Z Z Z<|.yv (.pickT Z Z) Z<|.nt<|.cT Z<|.sr<|.yv (.build Z (Fx.bld51_0 _)) Z<|.m Z Z<|.sW .head Z Z Fx.size51 (by simp [Value.oneCell',strV,cNd]) Z<|.a Z Z<|.nt<|.rt<|.tR<|?_
   exact Sx.retN (.inl rfl) rfl (.cons (.cell rfl Fx.agg51 (.head _) rfl) (.cons (.tmp rfl) .nil)) rfl fun W s => ⟨(_,_),H,⟨.mk 1 [] 0 [],l,ex_shut (by decide) (Rep.empty (by decide)),goodE_leaf (by omega),h⟩,rfl,.pure hA s.ext⟩
  try simp only [df] at h15
  refine .gd Z Z<|.yv (.move Z) Z<|.gd Z Z<|.yv (.gtr Z Z) Z<|.yv (.pickF Z Z) Z<|.nt<|.cd Z (fun h18 => ?_) (fun h18 => ?_)
  ·try simp only [dt] at h18
   refine .sr<|.yv (.build Z (Fx.bld51_0 _)) Z<|.m Z Z<|.sW .head Z Z Fx.size51 (by simp [Value.oneCell',strV,cNd]) Z<|.a Z Z<|.nt<|.rt<|.tR<|?_
   exact Sx.retN (.inl rfl) rfl (.cons (.cell rfl Fx.agg51 (.head _) rfl) (.cons (.tmp rfl) .nil)) rfl fun W s => ⟨(_,_),H,⟨.mk 1 [] 0 [],l,ex_shut (by decide) (Rep.empty (by decide)),goodE_leaf (by omega),h⟩,rfl,.pure hA s.ext⟩
  try simp only [df] at h18
  have hn0 : 0 < n := by omega
  obtain ⟨bE,oE,cE,hpE,rE,lE,mE⟩ := h.elem (map_at (f := dNd) (show 0 < l.length by omega))
  subst hpE
  generalize hx : l[0] = x at rE
  obtain rfl := nd_open rE
  obtain ⟨op,hop⟩ : ∃ op : UInt8,op.toNat = x.op.toNat % 24 := ⟨UInt8.ofNat (x.op.toNat % 24),by simp [UInt8.toNat_ofNat'];omega⟩
  obtain ⟨m0,hm0,hm2⟩ : ∃ m0 : Nat,max (arR op.toNat) 0 = (m0 : Int) ∧ m0 ≤ 2 := ⟨(max (arR op.toNat) 0).toNat,by have := arR_bnd op.toNat;omega,by have := arR_bnd op.toNat;omega⟩
  refine .sk<|.tN<|.sr<|.m Z Z<|.yv (.indexSl Fx.sl53 Z Z (i := 0) Z (by omega) (q := oE + 0 * 5) (by omega)) Z<|.yv (.loadMW Z Fx.agg173 mE Z) Z<|.al Fx.zero173 Z fun b6 => .sW .head Z Z Fx.size173 (by simp [Value.oneCell',strV,cNd]) Z<|.ns<|.m Z Z<|.yv (.cutLo Fx.sl53 Z Z (lo := 1) Z (by omega) h.len.2.1) Z<|.a Z Z<|.ns<|.yv (.fieldAddr Z Fx.field173_0) Z<|.yv (.load Z Fx.agg5 (.head _) Z) Z<|.yv (.rem Z Z (by decide) (c := ((x.op.toNat % 24 : Nat) : Int)) (by rw [Int.tmod_eq_emod_of_nonneg (by omega)];omega)) Z<|.yv (.conv Z Fx.int5 Fx.int3 (c := ((op.toNat : Nat) : Int)) ((w6 (by omega)).trans (by rw [hop]))) Z<|.yv (.fieldAddr Z Fx.field173_4) Z<|.yv (.load Z Fx.agg2 (.head _) Z) Z<|.yv (.build Z (Fx.bld51_0_2 _ _)) Z<|.al Fx.zero51 Z fun b7 => .sW .head Z Z Fx.size51 (by simp [Value.oneCell',strV,cNd]) Z<|.ns<|.yv (.fieldAddr Z Fx.field51_0) Z<|.yv (.load Z Fx.agg3 (.head _) Z) Z<|.yv (.call Fx.call86 Z (fun W s => arity_any H op.toNat W s.agr)) Z<|.yv (.max2 Z Z (c := ((m0 : Nat) : Int)) hm0) Z<|.a Z Z<|.nt<|.cu (X := Str) [(0,_),(1,_),(4,_),(6,_),(7,_),(8,_)] ⟨rfl,rfl,rfl,rfl,rfl,rfl,trivial⟩ (fun nm => []) (fun nm => H) (fun nm => [.box b7 [.int .i64 op.toNat,strV nm,.int .i64 (x.n).toInt,.slice none 0 0] 51,.box b6 (cNd x) 173,.box b4 [.int .i64 0,.string ⟨#[]⟩,.int .i64 0,.slice none 0 0] 51]) (fun nm => nm.length ≤ 13) ?_ fun nm hC => ?_
  ·
   refine .sr<|.yv (.fieldAddr Z Fx.field51_0) Z<|.yv (.load Z Fx.agg3 (.head _) Z) Z<|.yv (.geq Z Z) Z<|.m Z Z<|.b2 (fun h40 => ?_) (fun h40 => ?_)
   ·try simp only [dt] at h40
    refine .gd Z Z<|.yv (.fieldAddr Z Fx.field51_0) Z<|.gd Z Z<|.yv (.load Z Fx.agg3 (.head _) Z) Z<|.gd Z Z<|.yv (.leq Z Z) Z<|.yv (.pickT Z Z) Z<|.nt<|.cd Z (fun h44 => ?_) (fun h44 => ?_)
    ·skip
     exact .rg<|.yv (.fieldAddr Z Fx.field173_1) Z<|.yv (.load Z Fx.agg5 (.tail _<|.head _) Z) Z<|.yv (.call Fx.call53 Z (fun W s => word_any H x.nm W s.agr)) Z<|.yv (.fieldAddr Z Fx.field51_1) Z<|.st .head Z Z Fx.size9 Z (nb Z) Z<|.nt<|.me _ trivial ⟨rfl,rfl,rfl,rfl,rfl,rfl,trivial⟩ (fun _ s => s) (by first | exact word_len _ | decide)
    skip
    exact .sk<|.tN<|.me _ trivial ⟨rfl,rfl,rfl,rfl,rfl,rfl,trivial⟩ (fun _ s => s) (by first | exact word_len _ | decide)
   try simp only [df] at h40
   exact .gF Z Z Z Z<|.gF Z Z Z Z<|.gF Z Z Z Z<|.yv (.pickF Z Z) Z<|.nt<|.cF Z<|.sk<|.tN<|.me _ trivial ⟨rfl,rfl,rfl,rfl,rfl,rfl,trivial⟩ (fun _ s => s) (by first | exact word_len _ | decide)
  have hnm := hC
  refine .cu (X := Int64) [(0,_),(1,_),(4,_),(6,_),(7,_),(8,_)] ⟨rfl,rfl,rfl,rfl,rfl,rfl,trivial⟩ (fun nn => []) (fun nn => H) (fun nn => [.box b7 [.int .i64 op.toNat,strV nm,.int .i64 (nn).toInt,.slice none 0 0] 51,.box b6 (cNd x) 173,.box b4 [.int .i64 0,.string ⟨#[]⟩,.int .i64 0,.slice none 0 0] 51]) (fun nn => True) ?_ fun nn hC => ?_
  ·
   refine .sr<|.yv (.fieldAddr Z Fx.field51_0) Z<|.yv (.load Z Fx.agg3 (.head _) Z) Z<|.yv (.neq Z Z) Z<|.nt<|.cd Z (fun h51 => ?_) (fun h51 => ?_)
   ·skip
    exact .rg<|.yv (.fieldAddr Z Fx.field51_2) Z<|.st .head Z Z Fx.size2 Z (nb Z) Z<|.nt<|.me 0 trivial ⟨rfl,rfl,rfl,rfl,rfl,rfl,trivial⟩ (fun _ s => s) trivial
   skip
   exact .sk<|.tN<|.me x.n trivial ⟨rfl,rfl,rfl,rfl,rfl,rfl,trivial⟩ (fun _ s => s) trivial
  refine .cu (X := Nat × Str × Int64) [(0,_),(1,_),(4,_),(7,_)] ⟨rfl,rfl,rfl,rfl,trivial⟩ (fun z => [(8,.int .i64 (z.1 : Nat))]) (fun z => H) (fun z => [.box b7 [.int .i64 op.toNat,strV z.2.1,.int .i64 (z.2.2).toInt,.slice none 0 0] 51,.box b6 (cNd x) 173,.box b4 [.int .i64 0,.string ⟨#[]⟩,.int .i64 0,.slice none 0 0] 51]) (fun z => z.1 ≤ 3 ∧ z.2.1.length ≤ 13) ?_ fun z hC => ?_
  ·
   refine .sr<|.yv (.fieldAddr Z Fx.field173_3) Z<|.yv (.load Z Fx.agg4 (.tail _<|.head _) Z) Z<|.nt<|.cd Z (fun h54 => ?_) (fun h54 => ?_)
   ·skip
    refine .sr<|.yv (.fieldAddr Z Fx.field173_2) Z<|.yv (.load Z Fx.agg5 (.tail _<|.head _) Z) Z<|.yv (.rem Z Z (by decide) (c := ((x.ct.toNat % 4 : Nat) : Int)) (by rw [Int.tmod_eq_emod_of_nonneg (by omega)];omega)) Z<|.yv (.conv Z Fx.int5 Fx.int3 (c := ((x.ct.toNat % 4 : Nat) : Int)) (w6 (by omega))) Z<|.a Z Z<|.ns<|.yv (.fieldAddr Z Fx.field173_2) Z<|.yv (.load Z Fx.agg5 (.tail _<|.head _) Z) Z<|.yv (.rem Z Z (by decide) (c := ((x.ct.toNat % 5 : Nat) : Int)) (by rw [Int.tmod_eq_emod_of_nonneg (by omega)];omega)) Z<|.yv (.eql Z Z) Z<|.nt<|.cd Z (fun h62 => ?_) (fun h62 => ?_)
    ·skip
     refine .ar 9 #[false,false,false,false,false,false,false,false,false] (by kernel_rfl) Z Z<|.an 0 [3] (by kernel_rfl) ⟨?_,?_,trivial⟩
     ·
      refine .ao #[true,false,false,false,false,false,false,false,false] Z Z<|.yv (.fieldAddr Z Fx.field173_1) Z<|.nx<|.an 1 [3] (by kernel_rfl) ⟨?_,?_,trivial⟩
      ·
       refine .ao #[true,true,false,false,false,false,false,false,false] Z Z<|.yv (.load Z Fx.agg5 (.tail _<|.head _) Z) Z<|.nx<|.an 2 [3] (by kernel_rfl) ⟨?_,?_,trivial⟩
       ·
        refine .ao #[true,true,true,false,false,false,false,false,false] Z Z<|.yv (.call Fx.call53 Z (fun W s => word_any H x.nm W s.agr)) Z<|.nx<|.an 3 [5] (by kernel_rfl) ⟨?_,?_,trivial⟩
        ·
         refine .ao #[true,true,true,true,false,false,false,false,false] Z Z<|.yv (.fieldAddr Z Fx.field173_4) Z<|.nx<|.an 4 [5] (by kernel_rfl) ⟨?_,?_,trivial⟩
         ·
          refine .ao #[true,true,true,true,true,false,false,false,false] Z Z<|.yv (.load Z Fx.agg2 (.tail _<|.head _) Z) Z<|.nx<|.an 5 [] (by kernel_rfl) ⟨?_,trivial⟩
          refine .ao #[true,true,true,true,true,true,false,false,false] Z Z<|.yv (.fieldAddr Z Fx.field51_1) Z<|.nx<|.an 6 [] (by kernel_rfl) ⟨?_,trivial⟩
          refine .ao #[true,true,true,true,true,true,true,false,false] Z Z<|.st .head Z Z Fx.size9 Z (nb Z) Z<|.nx<|.an 7 [] (by kernel_rfl) ⟨?_,trivial⟩
          refine .ao #[true,true,true,true,true,true,true,true,false] Z Z<|.yv (.fieldAddr Z Fx.field51_2) Z<|.nx<|.an 8 [] (by kernel_rfl) ⟨?_,trivial⟩
          exact .ao #[true,true,true,true,true,true,true,true,true] Z Z<|.st .head Z Z Fx.size2 Z (nb Z) Z<|.nx<|.ae (by kernel_rfl)<|.tN<|.me (x.ct.toNat % 4,wordR x.nm,x.n) ⟨rfl,trivial⟩ ⟨rfl,rfl,rfl,rfl,trivial⟩ (fun _ s => s) ⟨by dsimp only;omega,by dsimp only;first | exact word_len _ | exact hnm⟩
         refine .ao #[true,true,true,true,false,true,false,false,false] Z Z<|.yv (.fieldAddr Z Fx.field51_1) Z<|.nx<|.an 4 [6] (by kernel_rfl) ⟨?_,?_,trivial⟩
         ·
          refine .ao #[true,true,true,true,true,true,false,false,false] Z Z<|.yv (.load Z Fx.agg2 (.tail _<|.head _) Z) Z<|.nx<|.an 6 [] (by kernel_rfl) ⟨?_,trivial⟩
          refine .ao #[true,true,true,true,true,true,true,false,false] Z Z<|.st .head Z Z Fx.size9 Z (nb Z) Z<|.nx<|.an 7 [] (by kernel_rfl) ⟨?_,trivial⟩
          refine .ao #[true,true,true,true,true,true,true,true,false] Z Z<|.yv (.fieldAddr Z Fx.field51_2) Z<|.nx<|.an 8 [] (by kernel_rfl) ⟨?_,trivial⟩
          exact .ao #[true,true,true,true,true,true,true,true,true] Z Z<|.st .head Z Z Fx.size2 Z (nb Z) Z<|.nx<|.ae (by kernel_rfl)<|.tN<|.me (x.ct.toNat % 4,wordR x.nm,x.n) ⟨rfl,trivial⟩ ⟨rfl,rfl,rfl,rfl,trivial⟩ (fun _ s => s) ⟨by dsimp only;omega,by dsimp only;first | exact word_len _ | exact hnm⟩
         refine .ao #[true,true,true,true,false,true,true,false,false] Z Z<|.st .head Z Z Fx.size9 Z (nb Z) Z<|.nx<|.an 4 [] (by kernel_rfl) ⟨?_,trivial⟩
         refine .ao #[true,true,true,true,true,true,true,false,false] Z Z<|.yv (.load Z Fx.agg2 (.tail _<|.head _) Z) Z<|.nx<|.an 7 [] (by kernel_rfl) ⟨?_,trivial⟩
         refine .ao #[true,true,true,true,true,true,true,true,false] Z Z<|.yv (.fieldAddr Z Fx.field51_2) Z<|.nx<|.an 8 [] (by kernel_rfl) ⟨?_,trivial⟩
         exact .ao #[true,true,true,true,true,true,true,true,true] Z Z<|.st .head Z Z Fx.size2 Z (nb Z) Z<|.nx<|.ae (by kernel_rfl)<|.tN<|.me (x.ct.toNat % 4,wordR x.nm,x.n) ⟨rfl,trivial⟩ ⟨rfl,rfl,rfl,rfl,trivial⟩ (fun _ s => s) ⟨by dsimp only;omega,by dsimp only;first | exact word_len _ | exact hnm⟩
        refine .ao #[true,true,true,false,false,true,false,false,false] Z Z<|.yv (.fieldAddr Z Fx.field51_1) Z<|.nx<|.an 3 [6] (by kernel_rfl) ⟨?_,?_,trivial⟩
        ·
         refine .ao #[true,true,true,true,false,true,false,false,false] Z Z<|.yv (.fieldAddr Z Fx.field173_4) Z<|.nx<|.an 4 [6] (by kernel_rfl) ⟨?_,?_,trivial⟩
         ·
          refine .ao #[true,true,true,true,true,true,false,false,false] Z Z<|.yv (.load Z Fx.agg2 (.tail _<|.head _) Z) Z<|.nx<|.an 6 [] (by kernel_rfl) ⟨?_,trivial⟩
          refine .ao #[true,true,true,true,true,true,true,false,false] Z Z<|.st .head Z Z Fx.size9 Z (nb Z) Z<|.nx<|.an 7 [] (by kernel_rfl) ⟨?_,trivial⟩
          refine .ao #[true,true,true,true,true,true,true,true,false] Z Z<|.yv (.fieldAddr Z Fx.field51_2) Z<|.nx<|.an 8 [] (by kernel_rfl) ⟨?_,trivial⟩
          exact .ao #[true,true,true,true,true,true,true,true,true] Z Z<|.st .head Z Z Fx.size2 Z (nb Z) Z<|.nx<|.ae (by kernel_rfl)<|.tN<|.me (x.ct.toNat % 4,wordR x.nm,x.n) ⟨rfl,trivial⟩ ⟨rfl,rfl,rfl,rfl,trivial⟩ (fun _ s => s) ⟨by dsimp only;omega,by dsimp only;first | exact word_len _ | exact hnm⟩
         refine .ao #[true,true,true,true,false,true,true,false,false] Z Z<|.st .head Z Z Fx.size9 Z (nb Z) Z<|.nx<|.an 4 [] (by kernel_rfl) ⟨?_,trivial⟩
         refine .ao #[true,true,true,true,true,true,true,false,false] Z Z<|.yv (.load Z Fx.agg2 (.tail _<|.head _) Z) Z<|.nx<|.an 7 [] (by kernel_rfl) ⟨?_,trivial⟩
         refine .ao #[true,true,true,true,true,true,true,true,false] Z Z<|.yv (.fieldAddr Z Fx.field51_2) Z<|.nx<|.an 8 [] (by kernel_rfl) ⟨?_,trivial⟩
         exact .ao #[true,true,true,true,true,true,true,true,true] Z Z<|.st .head Z Z Fx.size2 Z (nb Z) Z<|.nx<|.ae (by kernel_rfl)<|.tN<|.me (x.ct.toNat % 4,wordR x.nm,x.n) ⟨rfl,trivial⟩ ⟨rfl,rfl,rfl,rfl,trivial⟩ (fun _ s => s) ⟨by dsimp only;omega,by dsimp only;first | exact word_len _ | exact hnm⟩
        refine .ao #[true,true,true,false,false,true,true,false,false] Z Z<|.st .head Z Z Fx.size9 Z (nb Z) Z<|.nx<|.an 3 [] (by kernel_rfl) ⟨?_,trivial⟩
        refine .ao #[true,true,true,true,false,true,true,false,false] Z Z<|.yv (.fieldAddr Z Fx.field173_4) Z<|.nx<|.an 4 [] (by kernel_rfl) ⟨?_,trivial⟩
        refine .ao #[true,true,true,true,true,true,true,false,false] Z Z<|.yv (.load Z Fx.agg2 (.tail _<|.head _) Z) Z<|.nx<|.an 7 [] (by kernel_rfl) ⟨?_,trivial⟩
        refine .ao #[true,true,true,true,true,true,true,true,false] Z Z<|.yv (.fieldAddr Z Fx.field51_2) Z<|.nx<|.an 8 [] (by kernel_rfl) ⟨?_,trivial⟩
        exact .ao #[true,true,true,true,true,true,true,true,true] Z Z<|.st .head Z Z Fx.size2 Z (nb Z) Z<|.nx<|.ae (by kernel_rfl)<|.tN<|.me (x.ct.toNat % 4,wordR x.nm,x.n) ⟨rfl,trivial⟩ ⟨rfl,rfl,rfl,rfl,trivial⟩ (fun _ s => s) ⟨by dsimp only;omega,by dsimp only;first | exact word_len _ | exact hnm⟩
       refine .ao #[true,true,false,true,false,false,false,false,false] Z Z<|.yv (.fieldAddr Z Fx.field173_4) Z<|.nx<|.an 2 [4] (by kernel_rfl) ⟨?_,?_,trivial⟩
       ·
        refine .ao #[true,true,true,true,false,false,false,false,false] Z Z<|.yv (.call Fx.call53 Z (fun W s => word_any H x.nm W s.agr)) Z<|.nx<|.an 4 [5] (by kernel_rfl) ⟨?_,?_,trivial⟩
        ·
         refine .ao #[true,true,true,true,true,false,false,false,false] Z Z<|.yv (.load Z Fx.agg2 (.tail _<|.head _) Z) Z<|.nx<|.an 5 [] (by kernel_rfl) ⟨?_,trivial⟩
         refine .ao #[true,true,true,true,true,true,false,false,false] Z Z<|.yv (.fieldAddr Z Fx.field51_1) Z<|.nx<|.an 6 [] (by kernel_rfl) ⟨?_,trivial⟩
         refine .ao #[true,true,true,true,true,true,true,false,false] Z Z<|.st .head Z Z Fx.size9 Z (nb Z) Z<|.nx<|.an 7 [] (by kernel_rfl) ⟨?_,trivial⟩
         refine .ao #[true,true,true,true,true,true,true,true,false] Z Z<|.yv (.fieldAddr Z Fx.field51_2) Z<|.nx<|.an 8 [] (by kernel_rfl) ⟨?_,trivial⟩
         exact .ao #[true,true,true,true,true,true,true,true,true] Z Z<|.st .head Z Z Fx.size2 Z (nb Z) Z<|.nx<|.ae (by kernel_rfl)<|.tN<|.me (x.ct.toNat % 4,wordR x.nm,x.n) ⟨rfl,trivial⟩ ⟨rfl,rfl,rfl,rfl,trivial⟩ (fun _ s => s) ⟨by dsimp only;omega,by dsimp only;first | exact word_len _ | exact hnm⟩
        refine .ao #[true,true,true,true,false,true,false,false,false] Z Z<|.yv (.fieldAddr Z Fx.field51_1) Z<|.nx<|.an 4 [6] (by kernel_rfl) ⟨?_,?_,trivial⟩
        ·
         refine .ao #[true,true,true,true,true,true,false,false,false] Z Z<|.yv (.load Z Fx.agg2 (.tail _<|.head _) Z) Z<|.nx<|.an 6 [] (by kernel_rfl) ⟨?_,trivial⟩
         refine .ao #[true,true,true,true,true,true,true,false,false] Z Z<|.st .head Z Z Fx.size9 Z (nb Z) Z<|.nx<|.an 7 [] (by kernel_rfl) ⟨?_,trivial⟩
         refine .ao #[true,true,true,true,true,true,true,true,false] Z Z<|.yv (.fieldAddr Z Fx.field51_2) Z<|.nx<|.an 8 [] (by kernel_rfl) ⟨?_,trivial⟩
         exact .ao #[true,true,true,true,true,true,true,true,true] Z Z<|.st .head Z Z Fx.size2 Z (nb Z) Z<|.nx<|.ae (by kernel_rfl)<|.tN<|.me (x.ct.toNat % 4,wordR x.nm,x.n) ⟨rfl,trivial⟩ ⟨rfl,rfl,rfl,rfl,trivial⟩ (fun _ s => s) ⟨by dsimp only;omega,by dsimp only;first | exact word_len _ | exact hnm⟩
        refine .ao #[true,true,true,true,false,true,true,false,false] Z Z<|.st .head Z Z Fx.size9 Z (nb Z) Z<|.nx<|.an 4 [] (by kernel_rfl) ⟨?_,trivial⟩
        refine .ao #[true,true,true,true,true,true,true,false,false] Z Z<|.yv (.load Z Fx.agg2 (.tail _<|.head _) Z) Z<|.nx<|.an 7 [] (by kernel_rfl) ⟨?_,trivial⟩
        refine .ao #[true,true,true,true,true,true,true,true,false] Z Z<|.yv (.fieldAddr Z Fx.field51_2) Z<|.nx<|.an 8 [] (by kernel_rfl) ⟨?_,trivial⟩
        exact .ao #[true,true,true,true,true,true,true,true,true] Z Z<|.st .head Z Z Fx.size2 Z (nb Z) Z<|.nx<|.ae (by kernel_rfl)<|.tN<|.me (x.ct.toNat % 4,wordR x.nm,x.n) ⟨rfl,trivial⟩ ⟨rfl,rfl,rfl,rfl,trivial⟩ (fun _ s => s) ⟨by dsimp only;omega,by dsimp only;first | exact word_len _ | exact hnm⟩
       refine .ao #[true,true,false,true,true,false,false,false,false] Z Z<|.yv (.load Z Fx.agg2 (.tail _<|.head _) Z) Z<|.nx<|.an 2 [] (by kernel_rfl) ⟨?_,trivial⟩
       refine .ao #[true,true,true,true,true,false,false,false,false] Z Z<|.yv (.call Fx.call53 Z (fun W s => word_any H x.nm W s.agr)) Z<|.nx<|.an 5 [] (by kernel_rfl) ⟨?_,trivial⟩
       refine .ao #[true,true,true,true,true,true,false,false,false] Z Z<|.yv (.fieldAddr Z Fx.field51_1) Z<|.nx<|.an 6 [] (by kernel_rfl) ⟨?_,trivial⟩
       refine .ao #[true,true,true,true,true,true,true,false,false] Z Z<|.st .head Z Z Fx.size9 Z (nb Z) Z<|.nx<|.an 7 [] (by kernel_rfl) ⟨?_,trivial⟩
       refine .ao #[true,true,true,true,true,true,true,true,false] Z Z<|.yv (.fieldAddr Z Fx.field51_2) Z<|.nx<|.an 8 [] (by kernel_rfl) ⟨?_,trivial⟩
       exact .ao #[true,true,true,true,true,true,true,true,true] Z Z<|.st .head Z Z Fx.size2 Z (nb Z) Z<|.nx<|.ae (by kernel_rfl)<|.tN<|.me (x.ct.toNat % 4,wordR x.nm,x.n) ⟨rfl,trivial⟩ ⟨rfl,rfl,rfl,rfl,trivial⟩ (fun _ s => s) ⟨by dsimp only;omega,by dsimp only;first | exact word_len _ | exact hnm⟩
      refine .ao #[true,false,false,true,false,false,false,false,false] Z Z<|.yv (.fieldAddr Z Fx.field173_4) Z<|.nx<|.an 1 [4] (by kernel_rfl) ⟨?_,?_,trivial⟩
      ·
       refine .ao #[true,true,false,true,false,false,false,false,false] Z Z<|.yv (.load Z Fx.agg5 (.tail _<|.head _) Z) Z<|.nx<|.an 2 [4] (by kernel_rfl) ⟨?_,?_,trivial⟩
       ·
        refine .ao #[true,true,true,true,false,false,false,false,false] Z Z<|.yv (.call Fx.call53 Z (fun W s => word_any H x.nm W s.agr)) Z<|.nx<|.an 4 [5] (by kernel_rfl) ⟨?_,?_,trivial⟩
        ·
         refine .ao #[true,true,true,true,true,false,false,false,false] Z Z<|.yv (.load Z Fx.agg2 (.tail _<|.head _) Z) Z<|.nx<|.an 5 [] (by kernel_rfl) ⟨?_,trivial⟩
         refine .ao #[true,true,true,true,true,true,false,false,false] Z Z<|.yv (.fieldAddr Z Fx.field51_1) Z<|.nx<|.an 6 [] (by kernel_rfl) ⟨?_,trivial⟩
         refine .ao #[true,true,true,true,true,true,true,false,false] Z Z<|.st .head Z Z Fx.size9 Z (nb Z) Z<|.nx<|.an 7 [] (by kernel_rfl) ⟨?_,trivial⟩
         refine .ao #[true,true,true,true,true,true,true,true,false] Z Z<|.yv (.fieldAddr Z Fx.field51_2) Z<|.nx<|.an 8 [] (by kernel_rfl) ⟨?_,trivial⟩
         exact .ao #[true,true,true,true,true,true,true,true,true] Z Z<|.st .head Z Z Fx.size2 Z (nb Z) Z<|.nx<|.ae (by kernel_rfl)<|.tN<|.me (x.ct.toNat % 4,wordR x.nm,x.n) ⟨rfl,trivial⟩ ⟨rfl,rfl,rfl,rfl,trivial⟩ (fun _ s => s) ⟨by dsimp only;omega,by dsimp only;first | exact word_len _ | exact hnm⟩
        refine .ao #[true,true,true,true,false,true,false,false,false] Z Z<|.yv (.fieldAddr Z Fx.field51_1) Z<|.nx<|.an 4 [6] (by kernel_rfl) ⟨?_,?_,trivial⟩
        ·
         refine .ao #[true,true,true,true,true,true,false,false,false] Z Z<|.yv (.load Z Fx.agg2 (.tail _<|.head _) Z) Z<|.nx<|.an 6 [] (by kernel_rfl) ⟨?_,trivial⟩
         refine .ao #[true,true,true,true,true,true,true,false,false] Z Z<|.st .head Z Z Fx.size9 Z (nb Z) Z<|.nx<|.an 7 [] (by kernel_rfl) ⟨?_,trivial⟩
         refine .ao #[true,true,true,true,true,true,true,true,false] Z Z<|.yv (.fieldAddr Z Fx.field51_2) Z<|.nx<|.an 8 [] (by kernel_rfl) ⟨?_,trivial⟩
         exact .ao #[true,true,true,true,true,true,true,true,true] Z Z<|.st .head Z Z Fx.size2 Z (nb Z) Z<|.nx<|.ae (by kernel_rfl)<|.tN<|.me (x.ct.toNat % 4,wordR x.nm,x.n) ⟨rfl,trivial⟩ ⟨rfl,rfl,rfl,rfl,trivial⟩ (fun _ s => s) ⟨by dsimp only;omega,by dsimp only;first | exact word_len _ | exact hnm⟩
        refine .ao #[true,true,true,true,false,true,true,false,false] Z Z<|.st .head Z Z Fx.size9 Z (nb Z) Z<|.nx<|.an 4 [] (by kernel_rfl) ⟨?_,trivial⟩
        refine .ao #[true,true,true,true,true,true,true,false,false] Z Z<|.yv (.load Z Fx.agg2 (.tail _<|.head _) Z) Z<|.nx<|.an 7 [] (by kernel_rfl) ⟨?_,trivial⟩
        refine .ao #[true,true,true,true,true,true,true,true,false] Z Z<|.yv (.fieldAddr Z Fx.field51_2) Z<|.nx<|.an 8 [] (by kernel_rfl) ⟨?_,trivial⟩
        exact .ao #[true,true,true,true,true,true,true,true,true] Z Z<|.st .head Z Z Fx.size2 Z (nb Z) Z<|.nx<|.ae (by kernel_rfl)<|.tN<|.me (x.ct.toNat % 4,wordR x.nm,x.n) ⟨rfl,trivial⟩ ⟨rfl,rfl,rfl,rfl,trivial⟩ (fun _ s => s) ⟨by dsimp only;omega,by dsimp only;first | exact word_len _ | exact hnm⟩
       refine .ao #[true,true,false,true,true,false,false,false,false] Z Z<|.yv (.load Z Fx.agg2 (.tail _<|.head _) Z) Z<|.nx<|.an 2 [] (by kernel_rfl) ⟨?_,trivial⟩
       refine .ao #[true,true,true,true,true,false,false,false,false] Z Z<|.yv (.call Fx.call53 Z (fun W s => word_any H x.nm W s.agr)) Z<|.nx<|.an 5 [] (by kernel_rfl) ⟨?_,trivial⟩
       refine .ao #[true,true,true,true,true,true,false,false,false] Z Z<|.yv (.fieldAddr Z Fx.field51_1) Z<|.nx<|.an 6 [] (by kernel_rfl) ⟨?_,trivial⟩
       refine .ao #[true,true,true,true,true,true,true,false,false] Z Z<|.st .head Z Z Fx.size9 Z (nb Z) Z<|.nx<|.an 7 [] (by kernel_rfl) ⟨?_,trivial⟩
       refine .ao #[true,true,true,true,true,true,true,true,false] Z Z<|.yv (.fieldAddr Z Fx.field51_2) Z<|.nx<|.an 8 [] (by kernel_rfl) ⟨?_,trivial⟩
       exact .ao #[true,true,true,true,true,true,true,true,true] Z Z<|.st .head Z Z Fx.size2 Z (nb Z) Z<|.nx<|.ae (by kernel_rfl)<|.tN<|.me (x.ct.toNat % 4,wordR x.nm,x.n) ⟨rfl,trivial⟩ ⟨rfl,rfl,rfl,rfl,trivial⟩ (fun _ s => s) ⟨by dsimp only;omega,by dsimp only;first | exact word_len _ | exact hnm⟩
      refine .ao #[true,false,false,true,true,false,false,false,false] Z Z<|.yv (.load Z Fx.agg2 (.tail _<|.head _) Z) Z<|.nx<|.an 1 [] (by kernel_rfl) ⟨?_,trivial⟩
      refine .ao #[true,true,false,true,true,false,false,false,false] Z Z<|.yv (.load Z Fx.agg5 (.tail _<|.head _) Z) Z<|.nx<|.an 2 [] (by kernel_rfl) ⟨?_,trivial⟩
      refine .ao #[true,true,true,true,true,false,false,false,false] Z Z<|.yv (.call Fx.call53 Z (fun W s => word_any H x.nm W s.agr)) Z<|.nx<|.an 5 [] (by kernel_rfl) ⟨?_,trivial⟩
      refine .ao #[true,true,true,true,true,true,false,false,false] Z Z<|.yv (.fieldAddr Z Fx.field51_1) Z<|.nx<|.an 6 [] (by kernel_rfl) ⟨?_,trivial⟩
      refine .ao #[true,true,true,true,true,true,true,false,false] Z Z<|.st .head Z Z Fx.size9 Z (nb Z) Z<|.nx<|.an 7 [] (by kernel_rfl) ⟨?_,trivial⟩
      refine .ao #[true,true,true,true,true,true,true,true,false] Z Z<|.yv (.fieldAddr Z Fx.field51_2) Z<|.nx<|.an 8 [] (by kernel_rfl) ⟨?_,trivial⟩
      exact .ao #[true,true,true,true,true,true,true,true,true] Z Z<|.st .head Z Z Fx.size2 Z (nb Z) Z<|.nx<|.ae (by kernel_rfl)<|.tN<|.me (x.ct.toNat % 4,wordR x.nm,x.n) ⟨rfl,trivial⟩ ⟨rfl,rfl,rfl,rfl,trivial⟩ (fun _ s => s) ⟨by dsimp only;omega,by dsimp only;first | exact word_len _ | exact hnm⟩
     refine .ao #[false,false,false,true,false,false,false,false,false] Z Z<|.yv (.fieldAddr Z Fx.field173_4) Z<|.nx<|.an 0 [4] (by kernel_rfl) ⟨?_,?_,trivial⟩
     ·
      refine .ao #[true,false,false,true,false,false,false,false,false] Z Z<|.yv (.fieldAddr Z Fx.field173_1) Z<|.nx<|.an 1 [4] (by kernel_rfl) ⟨?_,?_,trivial⟩
      ·
       refine .ao #[true,true,false,true,false,false,false,false,false] Z Z<|.yv (.load Z Fx.agg5 (.tail _<|.head _) Z) Z<|.nx<|.an 2 [4] (by kernel_rfl) ⟨?_,?_,trivial⟩
       ·
        refine .ao #[true,true,true,true,false,false,false,false,false] Z Z<|.yv (.call Fx.call53 Z (fun W s => word_any H x.nm W s.agr)) Z<|.nx<|.an 4 [5] (by kernel_rfl) ⟨?_,?_,trivial⟩
        ·
         refine .ao #[true,true,true,true,true,false,false,false,false] Z Z<|.yv (.load Z Fx.agg2 (.tail _<|.head _) Z) Z<|.nx<|.an 5 [] (by kernel_rfl) ⟨?_,trivial⟩
         refine .ao #[true,true,true,true,true,true,false,false,false] Z Z<|.yv (.fieldAddr Z Fx.field51_1) Z<|.nx<|.an 6 [] (by kernel_rfl) ⟨?_,trivial⟩
         refine .ao #[true,true,true,true,true,true,true,false,false] Z Z<|.st .head Z Z Fx.size9 Z (nb Z) Z<|.nx<|.an 7 [] (by kernel_rfl) ⟨?_,trivial⟩
         refine .ao #[true,true,true,true,true,true,true,true,false] Z Z<|.yv (.fieldAddr Z Fx.field51_2) Z<|.nx<|.an 8 [] (by kernel_rfl) ⟨?_,trivial⟩
         exact .ao #[true,true,true,true,true,true,true,true,true] Z Z<|.st .head Z Z Fx.size2 Z (nb Z) Z<|.nx<|.ae (by kernel_rfl)<|.tN<|.me (x.ct.toNat % 4,wordR x.nm,x.n) ⟨rfl,trivial⟩ ⟨rfl,rfl,rfl,rfl,trivial⟩ (fun _ s => s) ⟨by dsimp only;omega,by dsimp only;first | exact word_len _ | exact hnm⟩
        refine .ao #[true,true,true,true,false,true,false,false,false] Z Z<|.yv (.fieldAddr Z Fx.field51_1) Z<|.nx<|.an 4 [6] (by kernel_rfl) ⟨?_,?_,trivial⟩
        ·
         refine .ao #[true,true,true,true,true,true,false,false,false] Z Z<|.yv (.load Z Fx.agg2 (.tail _<|.head _) Z) Z<|.nx<|.an 6 [] (by kernel_rfl) ⟨?_,trivial⟩
         refine .ao #[true,true,true,true,true,true,true,false,false] Z Z<|.st .head Z Z Fx.size9 Z (nb Z) Z<|.nx<|.an 7 [] (by kernel_rfl) ⟨?_,trivial⟩
         refine .ao #[true,true,true,true,true,true,true,true,false] Z Z<|.yv (.fieldAddr Z Fx.field51_2) Z<|.nx<|.an 8 [] (by kernel_rfl) ⟨?_,trivial⟩
         exact .ao #[true,true,true,true,true,true,true,true,true] Z Z<|.st .head Z Z Fx.size2 Z (nb Z) Z<|.nx<|.ae (by kernel_rfl)<|.tN<|.me (x.ct.toNat % 4,wordR x.nm,x.n) ⟨rfl,trivial⟩ ⟨rfl,rfl,rfl,rfl,trivial⟩ (fun _ s => s) ⟨by dsimp only;omega,by dsimp only;first | exact word_len _ | exact hnm⟩
        refine .ao #[true,true,true,true,false,true,true,false,false] Z Z<|.st .head Z Z Fx.size9 Z (nb Z) Z<|.nx<|.an 4 [] (by kernel_rfl) ⟨?_,trivial⟩
        refine .ao #[true,true,true,true,true,true,true,false,false] Z Z<|.yv (.load Z Fx.agg2 (.tail _<|.head _) Z) Z<|.nx<|.an 7 [] (by kernel_rfl) ⟨?_,trivial⟩
        refine .ao #[true,true,true,true,true,true,true,true,false] Z Z<|.yv (.fieldAddr Z Fx.field51_2) Z<|.nx<|.an 8 [] (by kernel_rfl) ⟨?_,trivial⟩
        exact .ao #[true,true,true,true,true,true,true,true,true] Z Z<|.st .head Z Z Fx.size2 Z (nb Z) Z<|.nx<|.ae (by kernel_rfl)<|.tN<|.me (x.ct.toNat % 4,wordR x.nm,x.n) ⟨rfl,trivial⟩ ⟨rfl,rfl,rfl,rfl,trivial⟩ (fun _ s => s) ⟨by dsimp only;omega,by dsimp only;first | exact word_len _ | exact hnm⟩
       refine .ao #[true,true,false,true,true,false,false,false,false] Z Z<|.yv (.load Z Fx.agg2 (.tail _<|.head _) Z) Z<|.nx<|.an 2 [] (by kernel_rfl) ⟨?_,trivial⟩
       refine .ao #[true,true,true,true,true,false,false,false,false] Z Z<|.yv (.call Fx.call53 Z (fun W s => word_any H x.nm W s.agr)) Z<|.nx<|.an 5 [] (by kernel_rfl) ⟨?_,trivial⟩
       refine .ao #[true,true,true,true,true,true,false,false,false] Z Z<|.yv (.fieldAddr Z Fx.field51_1) Z<|.nx<|.an 6 [] (by kernel_rfl) ⟨?_,trivial⟩
       refine .ao #[true,true,true,true,true,true,true,false,false] Z Z<|.st .head Z Z Fx.size9 Z (nb Z) Z<|.nx<|.an 7 [] (by kernel_rfl) ⟨?_,trivial⟩
       refine .ao #[true,true,true,true,true,true,true,true,false] Z Z<|.yv (.fieldAddr Z Fx.field51_2) Z<|.nx<|.an 8 [] (by kernel_rfl) ⟨?_,trivial⟩
       exact .ao #[true,true,true,true,true,true,true,true,true] Z Z<|.st .head Z Z Fx.size2 Z (nb Z) Z<|.nx<|.ae (by kernel_rfl)<|.tN<|.me (x.ct.toNat % 4,wordR x.nm,x.n) ⟨rfl,trivial⟩ ⟨rfl,rfl,rfl,rfl,trivial⟩ (fun _ s => s) ⟨by dsimp only;omega,by dsimp only;first | exact word_len _ | exact hnm⟩
      refine .ao #[true,false,false,true,true,false,false,false,false] Z Z<|.yv (.load Z Fx.agg2 (.tail _<|.head _) Z) Z<|.nx<|.an 1 [] (by kernel_rfl) ⟨?_,trivial⟩
      refine .ao #[true,true,false,true,true,false,false,false,false] Z Z<|.yv (.load Z Fx.agg5 (.tail _<|.head _) Z) Z<|.nx<|.an 2 [] (by kernel_rfl) ⟨?_,trivial⟩
      refine .ao #[true,true,true,true,true,false,false,false,false] Z Z<|.yv (.call Fx.call53 Z (fun W s => word_any H x.nm W s.agr)) Z<|.nx<|.an 5 [] (by kernel_rfl) ⟨?_,trivial⟩
      refine .ao #[true,true,true,true,true,true,false,false,false] Z Z<|.yv (.fieldAddr Z Fx.field51_1) Z<|.nx<|.an 6 [] (by kernel_rfl) ⟨?_,trivial⟩
      refine .ao #[true,true,true,true,true,true,true,false,false] Z Z<|.st .head Z Z Fx.size9 Z (nb Z) Z<|.nx<|.an 7 [] (by kernel_rfl) ⟨?_,trivial⟩
      refine .ao #[true,true,true,true,true,true,true,true,false] Z Z<|.yv (.fieldAddr Z Fx.field51_2) Z<|.nx<|.an 8 [] (by kernel_rfl) ⟨?_,trivial⟩
      exact .ao #[true,true,true,true,true,true,true,true,true] Z Z<|.st .head Z Z Fx.size2 Z (nb Z) Z<|.nx<|.ae (by kernel_rfl)<|.tN<|.me (x.ct.toNat % 4,wordR x.nm,x.n) ⟨rfl,trivial⟩ ⟨rfl,rfl,rfl,rfl,trivial⟩ (fun _ s => s) ⟨by dsimp only;omega,by dsimp only;first | exact word_len _ | exact hnm⟩
     refine .ao #[false,false,false,true,true,false,false,false,false] Z Z<|.yv (.load Z Fx.agg2 (.tail _<|.head _) Z) Z<|.nx<|.an 0 [] (by kernel_rfl) ⟨?_,trivial⟩
     refine .ao #[true,false,false,true,true,false,false,false,false] Z Z<|.yv (.fieldAddr Z Fx.field173_1) Z<|.nx<|.an 1 [] (by kernel_rfl) ⟨?_,trivial⟩
     refine .ao #[true,true,false,true,true,false,false,false,false] Z Z<|.yv (.load Z Fx.agg5 (.tail _<|.head _) Z) Z<|.nx<|.an 2 [] (by kernel_rfl) ⟨?_,trivial⟩
     refine .ao #[true,true,true,true,true,false,false,false,false] Z Z<|.yv (.call Fx.call53 Z (fun W s => word_any H x.nm W s.agr)) Z<|.nx<|.an 5 [] (by kernel_rfl) ⟨?_,trivial⟩
     refine .ao #[true,true,true,true,true,true,false,false,false] Z Z<|.yv (.fieldAddr Z Fx.field51_1) Z<|.nx<|.an 6 [] (by kernel_rfl) ⟨?_,trivial⟩
     refine .ao #[true,true,true,true,true,true,true,false,false] Z Z<|.st .head Z Z Fx.size9 Z (nb Z) Z<|.nx<|.an 7 [] (by kernel_rfl) ⟨?_,trivial⟩
     refine .ao #[true,true,true,true,true,true,true,true,false] Z Z<|.yv (.fieldAddr Z Fx.field51_2) Z<|.nx<|.an 8 [] (by kernel_rfl) ⟨?_,trivial⟩
     exact .ao #[true,true,true,true,true,true,true,true,true] Z Z<|.st .head Z Z Fx.size2 Z (nb Z) Z<|.nx<|.ae (by kernel_rfl)<|.tN<|.me (x.ct.toNat % 4,wordR x.nm,x.n) ⟨rfl,trivial⟩ ⟨rfl,rfl,rfl,rfl,trivial⟩ (fun _ s => s) ⟨by dsimp only;omega,by dsimp only;first | exact word_len _ | exact hnm⟩
    skip
    exact .sk<|.tN<|.me (x.ct.toNat % 4,nm,nn) ⟨rfl,trivial⟩ ⟨rfl,rfl,rfl,rfl,trivial⟩ (fun _ s => s) ⟨by dsimp only;omega,by dsimp only;first | exact word_len _ | exact hnm⟩
   skip
   exact .sk<|.tN<|.me (m0,nm,nn) ⟨rfl,trivial⟩ ⟨rfl,rfl,rfl,rfl,trivial⟩ (fun _ s => s) ⟨by dsimp only;omega,by dsimp only;first | exact word_len _ | exact hnm⟩
  obtain ⟨m,nm,nn⟩ := z
  dsimp only at hC ⊢
  obtain ⟨hm3,hnm⟩ := hC
  refine Sx.row0 51 4 ?_
  refine .sq<|.sr<|.a Z Z<|.nt<|.bk<|.lp (X := Nat × Hp × Value × List Value × Value) [(1,_),(4,_),(7,_),(8,_)] ⟨rfl,rfl,rfl,rfl,trivial⟩ [_,_] (fun z => [(9,.int .i64 (z.1 : Nat)),(0,z.2.2.2.2)]) (fun z => z.2.1) (fun z => [.row 51 4 z.2.2.1 z.1 z.2.2.2.1,.box b7 [.int .i64 op.toNat,strV nm,.int .i64 (nn).toInt,z.2.2.1] 51]) (fun z => z.1 ≤ m ∧ HUp w H z.2.1 ∧ ∃ (es : List Ex) (rest : List Nd),es.length = z.1 ∧ RepZ z.2.1 4 (es.map (dEx .i64)) z.2.2.2.1 ∧ goodEs d es ∧ Rep z.2.1 (.seq 5 (rest.map dNd)) [z.2.2.2.2]) (fun z => m - z.1) (0,H,.slice none 0 0,[],_) (fun _ s => s) ⟨rfl,rfl,trivial⟩ ⟨by simp,.refl,[],_,rfl,RepZ.nil,goodEs_nil d,(by have h5 := rep_drop h (lo := 1) (by omega);rw [← List.map_drop] at h5;exact h5)⟩ fun z hC => ?_
  obtain ⟨k,H1,r,xs,rv⟩ := z
  dsimp only at hC ⊢
  obtain ⟨hk0,u1,es,rest,hlen,hz,hgs,hrs⟩ := hC
  refine .sq<|.sr<|.m Z Z<|.m Z Z<|.yv (.lss Z Z) Z<|.nt<|.cd Z (fun h72 => ?_) (fun h72 => ?_)
  ·try simp only [dt] at h72
   have hk : k < m := by omega
   refine .sk<|.tN<|.sq<|.bk<|.sr<|.m Z Z<|.m Z Z<|.yv (.add Z Z (w6 (by omega))) Z<|.ct (X := List Value × Value) Fx.call49 Z (fun W s => ih (f - 1) (by omega) (d + 1) (by omega) H1 _ _ W hrs s.agr) Z fun y2 H2 hc2 u2 => ?_
   obtain ⟨x2,y2⟩ := y2
   obtain ⟨x2e,rest2,hc2,hg2,hrs2⟩ := hc2
   dsimp only at hc2 hrs2 ⊢
   obtain ⟨op2,nm2,n2,args2⟩ := x2e
   obtain ⟨p2,c2,rfl,hs2,hnm2⟩ := ex_open hc2
   refine .m Z Z<|.yv (.extract Z Z) Z<|.yv (.extract Z Z) Z<|.al Fx.zero51 Z fun b10 => .sW .head Z Z Fx.size51 (by simp [Value.oneCell',strV,cNd]) Z<|.a Z Z<|.nt<|.rg<|.yv (.fieldAddr Z Fx.field51_3) Z<|.yv (.load Z Fx.agg49 (.tail _<|.tail _<|.head _) Z) Z<|.yv (.loadW Z Fx.agg51 (.head _) Z) Z<|.bl Z (Fx.bsl49_1 _ _ _ _) Z fun b85 => .ap (news := [.int .i64 op2.toNat,strV nm2,.int .i64 n2.toInt,.slice p2 args2.length c2]) Fx.row49 Z (fun _ => (.tail<|.tail<|.head)) Z (.box (.head _) z0) Z (by simp [Value.oneCell',strV]) (by simp [maxLen];omega) (by omega) Z fun r86 _ => ?_
   refine At.ra (by first | exact .tail _ (.tail _ (.head _)) | exact .tail _ (.tail _ (.tail _ (.head _)))) fun p86 c86 e86 => ?_
   exact .m Z Z<|.yv (.fieldAddr Z Fx.field51_3) Z<|.st (.tail<|.tail<|.tail<|.head) Z Z Fx.size49 (by rw [e86];rfl) (nb Z) Z<|.a Z Z<|.nl<|.bN<|.tN<|.rg<|.m Z Z<|.yv (.add Z Z (w6 (by omega))) Z<|.a Z Z<|.nt<|.ag (x := (k,H1,r,xs,rv)) (k + 1,H2,r86,xs ++ [.int .i64 op2.toNat,strV nm2,.int .i64 n2.toInt,.slice p2 args2.length c2],y2) ⟨rfl,rfl,trivial⟩ ⟨rfl,rfl,rfl,rfl,trivial⟩ (fun _ s => (s.pick [2,3,4,5] _ Z Z)) ⟨by dsimp only;omega,u1.trans u2,es ++ [.mk op2 nm2 n2 args2],rest2,by simp;omega,by rw [List.map_append];exact (hz.up u2.up).snoc hc2 Z,goodEs_snoc hgs hg2,hrs2⟩ (by dsimp only;omega)
  try simp only [df] at h72
  obtain rfl : k = m := by omega
  refine At.ra (.head _) fun p86 c86 e86 => ?_
  subst e86
  refine .ex<|.tE<|.tE<|.bE<|.tN<|.sr<|.yv (.loadW Z Fx.agg51 (.tail _<|.head _) Z) Z<|.m Z Z<|.sW (.tail<|.tail<|.tail<|.head) Z Z Fx.size51 (by simp [Value.oneCell',strV,cNd]) Z<|.a Z Z<|.nt<|.rt<|?_
  refine At.pm [0,3] [_,_] rfl rfl ?_
  refine Sx.freezeSeq (ds := es.map (dEx .i64)) (by simp;omega) hz fun H3 p3 c3 u3 hr3 hs3 => ?_
  refine Sx.retN (.inl rfl) rfl (.cons (.cell rfl Fx.agg51 (.head _) rfl) (.cons (.tmp rfl) .nil)) rfl fun W s => ⟨(_,_),H3,⟨_,rest,ex_shut (by omega) hs3,?_,hrs.up u3.up⟩,rfl,(u1.trans u3).grow s⟩
  rw [goodE_mk]
  exact ⟨by omega,hgs⟩
def blkB (c : UInt8) : Bool := decide (c = 32) || decide (c = 9) || decide (c = 10) || decide (c = 13)
def skipS : Bool → Str → Str
 | _,[] => []
 | true,c :: r => if c = 10 then skipS false r else skipS true r
 | false,c :: r => if blkB c then skipS false r else if c = 47 ∧ r.head? = some 47 then skipS true r else c :: r
theorem skipS_nil (b : Bool) : skipS b [] = [] := by cases b <;> rfl
theorem skipS_blk {c : UInt8} {r : Str} (h : blkB c = true) : skipS false (c :: r) = skipS false r := by rw [skipS,if_pos h]
theorem skipS_stop {c : UInt8} {r : Str} (h : blkB c = false) (h2 : ¬ (c = 47 ∧ r.head? = some 47)) : skipS false (c :: r) = c :: r := by rw [skipS,if_neg (by simp [h]),if_neg h2]
theorem skipS_suf : ∀ (l : Str) (b : Bool),∃ p,l = p ++ skipS b l
 | [],b => ⟨[],by rw [skipS_nil];rfl⟩
 | c :: r,true => by
  rw [skipS]
  split
  ·obtain ⟨p,h⟩ := skipS_suf r false;exact ⟨c :: p,by rw [List.cons_append,← h]⟩
  ·obtain ⟨p,h⟩ := skipS_suf r true;exact ⟨c :: p,by rw [List.cons_append,← h]⟩
 | c :: r,false => by
  rw [skipS]
  split
  ·obtain ⟨p,h⟩ := skipS_suf r false;exact ⟨c :: p,by rw [List.cons_append,← h]⟩
  ·split
   ·obtain ⟨p,h⟩ := skipS_suf r true;exact ⟨c :: p,by rw [List.cons_append,← h]⟩
   ·exact ⟨[],rfl⟩
theorem skipS_len (b : Bool) (l : Str) : (skipS b l).length ≤ l.length := by
 obtain ⟨p,h⟩ := skipS_suf l b
 have := congrArg List.length h
 rw [List.length_append] at this;omega
theorem readK_one {c : UInt8} {r : Str} (h : (readK (c :: r)).1 = 1) : letB c = true := by
 cases h1 : letB c with
 | true => rfl
 | false =>
  cases h4 : digB c with
  | true =>
   by_cases h5 : pre digB (c :: r) = 1 ∨ c ≠ 48
   ·simp only [readK,List.headD_cons,h1,h4,h5,if_true,Bool.false_eq_true,if_false] at h;simp at h
   ·simp only [readK,List.headD_cons,h1,h4,h5,if_true,Bool.false_eq_true,if_false] at h;simp at h
  | false =>
   cases hx : symbols.find? (fun x => x.isPrefixOf (c :: r)) <;> simp only [readK,List.headD_cons,h1,h4,hx,Bool.false_eq_true,if_false] at h <;> simp at h
structure Tk where
 k : UInt8
 t : Str
 o : Nat
def tokF : Nat → Nat → Str → List Tk
 | 0,_,_ => []
 | f + 1,o,m => if m = [] then [] else ⟨(readK m).1,m.take (readK m).2,o⟩ :: tokF f (o + (m.length - (skipS false (m.drop (readK m).2)).length)) (skipS false (m.drop (readK m).2))
def lexR (s : Str) : List Tk := tokF (s.length + 1) (s.length - (skipS false s).length) (skipS false s)
theorem tokF_step {f o : Nat} {m : Str} (h : m ≠ []) : tokF (f + 1) o m = ⟨(readK m).1,m.take (readK m).2,o⟩ :: tokF f (o + (m.length - (skipS false (m.drop (readK m).2)).length)) (skipS false (m.drop (readK m).2)) := by rw [tokF,if_neg h]
theorem tokF_nil (f o : Nat) : tokF f o [] = [] := by cases f <;> simp [tokF]
end Go.Proofs.YtmbiojpcidccjaaGreatDoor
namespace Go.Proofs.YtmbiojpcidccjaaGreatDoor
open Go.RowKit Go.Par Go.Sx
open Go.RowKit Go.Par Go.Sx
open Go.RowKit Go.Par Go.Sx
open Go.RowKit Go.Par Go.Sx
open Go.RowKit Go.Par Go.Sx
open Go.RowKit Go.Par Go.Sx
open Go.RowKit Go.Par Go.Sx
open Go.RowKit Go.Par Go.Sx
end Go.Proofs.YtmbiojpcidccjaaGreatDoor
namespace Go.Proofs.YtmbiojpcidccjaaGreatDoor
open Go.RowKit Go.Par Go.Sx
theorem Fx.call33 : callN Tryz.prog 33 = Bool.true := by kernel_rfl
theorem dec_big {n : Nat} (h : ¬ n < 10) : Lib.decDigits n = Lib.decDigits (n / 10) ++ Lib.decDigits (n % 10) := by
 rw [Lib.decDigits_one (Nat.mod_lt n (by omega))]
 conv => lhs;rw [Lib.decDigits,dif_neg h]
def digsT : Str := [48,49,50,51,52,53,54,55,56,57]
theorem digs_one {n : Nat} (h : n < 10) : (digsT.take (n + 1)).drop n = Lib.decDigits n := by
 rw [Lib.decDigits_one h]
 have key : ∀ i ∈ List.range 10,(digsT.take (i + 1)).drop i = [UInt8.ofNat (48 + i)] := by decide
 exact key n (List.mem_range.2 h)
theorem dec_len {n : Nat} (h : n ≤ 9223372036854775807) : (Lib.decDigits n).length ≤ 21 := by
 have := Lib.itoa_length_le (n : Int) (by omega) (by omega)
 rwa [Lib.itoa,if_neg (by omega),Int.toNat_natCast] at this
set_option maxRecDepth 100000 in
theorem numberN_any (H : Hp) (n : Nat) : n ≤ 9223372036854775807 → ∀ (w : World),Agr H w → Calls Tryz.prog 33 #[.int .i64 (n : Nat)] w fun r w' => r = .returned (strV (Lib.decDigits n)) ∧ Ext w w' := by
 induction n using Nat.strongRecOn with | _ n ih
 intro hn w hA
 refine Sx.enter (H := H) Tryz.func33 rfl Tryz.ntmps33 rfl hA ?_
 refine .sr<|.a Z Z<|.nt<|.sq<|.sr<|.m Z Z<|.yv (.lss Z Z) Z<|.nt<|.cd Z (fun h4 => ?_) (fun h4 => ?_)
 ·try simp only [dt] at h4
  exact absurd (by omega : False) id
 try simp only [df] at h4
 refine .sk<|.tN<|.sq<|.sr<|.m Z Z<|.yv (.lss Z Z) Z<|.nt<|.cd Z (fun h10 => ?_) (fun h10 => ?_)
 ·try simp only [dt] at h10
  refine .sr<|.m Z Z<|.m Z Z<|.yv (.add Z Z (c := ((n + 1 : Nat) : Int)) ((w6 (by omega)).trans (by omega))) Z<|.yv (.cast (.midS (l := digsT) Fx.str9 Z Z Z (lo := n) (hi := n + 1) Z Z (by omega) (by show n + 1 ≤ 10;omega)) (by rw [digs_one (by omega)])) Z<|.a Z Z<|.nt<|.rt<|.tR<|?_
  refine Sx.ret1 (.inl rfl) rfl (.tmp rfl) fun W s => ⟨?_,s.ext⟩
  first
   | (rfl)
   | (rw [dec_big (n := n) (by omega)];rfl)
   | (rw [digs_one (by omega)])
 try simp only [df] at h10
 refine .sk<|.tN<|.sr<|.m Z Z<|.yv (.quo Z Z (by decide) (c := ((n / 10 : Nat) : Int)) (by rw [Int.tdiv_eq_ediv_of_nonneg (by omega)];exact (w6 (by omega)).trans (by omega))) Z<|.yv (.call Fx.call33 Z (fun W s => ih (n / 10) (by omega) (by omega) W s.agr)) Z<|.m Z Z<|.yv (.rem Z Z (by decide) (c := ((n % 10 : Nat) : Int)) (by rw [Int.tmod_eq_emod_of_nonneg (by omega)];omega)) Z<|.yv (.call Fx.call33 Z (fun W s => ih (n % 10) (by omega) (by omega) W s.agr)) Z<|.yv (.app Z Z (by have := dec_len (n := n / 10) (by omega);have := dec_len (n := n % 10) (by omega);omega)) Z<|.a Z Z<|.nt<|.rt<|?_
 refine Sx.ret1 (.inl rfl) rfl (.tmp rfl) fun W s => ⟨?_,s.ext⟩
 first
  | (rfl)
  | (rw [dec_big (n := n) (by omega)];rfl)
  | (rw [digs_one (by omega)])
theorem _root_.Go.Sx.Yl.neg64 {P : Program} {L : Sl} {H : Hp} {w0 : World} {bs : List Res} {d : Option Tmp} {ty : TypeId} {pos : String} {aft : Array Edge} {g : Option (Nat × Bool)} {x : Operand} {T : TypeId} {i c : Int} (hx : ev L x = some (.int .i64 i)) (hc : c = -i) (h1 : -9223372036854775808 ≤ c) (h2 : c ≤ 9223372036854775807) : Yl P L H w0 bs ⟨d,.unOp .neg T x,ty,pos,aft,g⟩ (.int .i64 c) := .of_run fun a W f _ => by
 subst hc
 have hw : IntKind.i64.wrap (-i) = -i := w64 h1 h2
 unfold execOp
 simp [f x _ hx,Op.unary,Op.intArith,hw,Result.andThen]
set_option maxRecDepth 100000 in
theorem number_any (H : Hp) (n : Int) (h1 : -9223372036854775808 < n) (h2 : n ≤ 9223372036854775807) (w : World) (hA : Agr H w) : Calls Tryz.prog 33 #[.int .i64 n] w fun r w' => r = .returned (strV (Lib.itoa n)) ∧ Ext w w' := by
 by_cases h0 : 0 ≤ n
 ·have h := numberN_any H n.toNat (by omega) w hA
  rw [show ((n.toNat : Nat) : Int) = n by omega] at h
  rw [Lib.itoa,if_neg (by omega)]
  exact h
 refine Sx.enter (H := H) Tryz.func33 rfl Tryz.ntmps33 rfl hA ?_
 refine .sr<|.a Z Z<|.nt<|.sq<|.sr<|.m Z Z<|.yv (.lss Z Z) Z<|.nt<|.cd Z (fun h4 => ?_) (fun h4 => ?_)
 ·try simp only [dt] at h4
  refine .sr<|.m Z Z<|.yv (.neg64 Z (c := ((n.natAbs : Nat) : Int)) (by omega) (by omega) (by omega)) Z<|.yv (.call Fx.call33 Z (fun W s => numberN_any H n.natAbs (by omega) W s.agr)) Z<|.yv (.app Z Z (by have := dec_len (n := n.natAbs) (by omega);simp only [List.length_cons,List.length_nil];omega)) Z<|.a Z Z<|.nt<|.rt<|.tR<|?_
  refine Sx.ret1 (.inl rfl) rfl (.tmp rfl) fun W s => ⟨?_,s.ext⟩
  first
   | (rw [Lib.itoa,if_pos (by omega)];rfl)
 try simp only [df] at h4
 exact absurd (by omega : False) id
end Go.Proofs.YtmbiojpcidccjaaGreatDoor
namespace Go.Proofs.YtmbiojpcidccjaaGreatDoor
open Go.RowKit Go.Par Go.Sx
open Go.RowKit Go.Par Go.Sx
end Go.Proofs.YtmbiojpcidccjaaGreatDoor
namespace Go.Proofs.YtmbiojpcidccjaaGreatDoor
open Go.RowKit Go.Par Go.Sx
def BuiltC (x : List Value) (H' : Hp) : Prop := ∃ e : Ex,Rep H' (dEx .i64 e) x ∧ goodE 1 e
set_option maxRecDepth 100000 in
theorem buildR_any (H : Hp) (l : List Nd) (v : Value) (h0 : Rep H (.seq 5 (l.map dNd)) [v]) (w : World) (hA : Agr H w) :
 Calls Tryz.prog 17 #[v] w fun r w' => ∃ (x : List Value) (H' : Hp),BuiltC x H' ∧ r = .returned (.agg x.toArray) ∧ Grow H w H' w' := by
 obtain ⟨p,c,e,_⟩ := h0.sl
 simp only [List.cons.injEq,and_true,List.length_map] at e
 subst e
 have h := h0
 have hcap := h.cap
 refine Sx.enter (H := H) Tryz.func17 rfl Tryz.ntmps17 rfl hA ?_
 refine .sr<|.al Fx.zero51 Z fun b2 => .ns<|.m Z Z<|.m Z Z<|.yv (.lenSl Fx.sl53 Z) Z<|.yv (.min2 Z Z (c := ((min l.length 60 : Nat) : Int)) (by omega)) Z<|.yv (.cutHi2 Fx.sl53 Z Z (h := min l.length 60) Z (by have := h.len.2.1;omega)) Z<|.ct (X := List Value × Value) Fx.call49 Z (fun W s => build_any 30 1 Z H (l.take (min l.length 60)) _ W (by rw [List.map_take];exact rep_take2 h (by omega)) s.agr) Z fun y H1 hc u1 => ?_
 obtain ⟨x,y⟩ := y
 obtain ⟨e,rest,hx,hg,_⟩ := hc
 dsimp only at hx
 refine .m Z Z<|.yv (.extract Z Z) Z<|.yv (.extract Z Z) Z<|.al Fx.zero51 Z fun b3 => .sV .head Z Z Fx.size51 (ex_len hx) hx.one Z<|.a Z Z<|.ns<|.yv (.loadW Z Fx.agg51 (.head _) (ex_len hx)) Z<|.sV (.tail<|.head) Z Z Fx.size51 (ex_len hx) hx.one Z<|.nt<|.rt<|?_
 exact Sx.ret1 (.inl rfl) rfl (.cell rfl Fx.agg51 (.tail _<|.head _) (ex_len hx)) fun W t => ⟨x,H1,⟨e,hx,hg⟩,rfl,u1.grow t⟩
theorem Fx.bytes22 : bytesN Tryz.prog 22 = Bool.true := by kernel_rfl
theorem Fx.field126_6 : fieldN Tryz.prog 126 6 = Option.some 6 := by kernel_rfl
theorem Fx.bsl22_2 (x0 : Int) (x1 : Int) : bslN Tryz.prog 22 2 [(0,.int .u8 x0),(1,.int .u8 x1)] = some (5,[.int .u8 x0,.int .u8 x1]) := by kernel_rfl
theorem Fx.call41 : callN Tryz.prog 41 = Bool.true := by kernel_rfl
theorem Fx.call112 : callN Tryz.prog 112 = Bool.true := by kernel_rfl
theorem Fx.field126_0 : fieldN Tryz.prog 126 0 = Option.some 0 := by kernel_rfl
theorem Fx.call135 : callN Tryz.prog 135 = Bool.true := by kernel_rfl
theorem Fx.call137 : callN Tryz.prog 137 = Bool.true := by kernel_rfl
theorem Fx.field126_1 : fieldN Tryz.prog 126 1 = Option.some 1 := by kernel_rfl
theorem Fx.field126_5 : fieldN Tryz.prog 126 5 = Option.some 5 := by kernel_rfl
theorem Fx.sl123 : slN Tryz.prog 123 = Option.some 1 := by kernel_rfl
theorem Fx.bld51_0_1 (x0 : Int) (x1 : ByteArray) : buildN Tryz.prog 51 [(0,.int .i64 x0),(1,.string x1)] = some [.int .i64 x0,.string x1,.int .i64 0,.slice none 0 0] := by kernel_rfl
theorem Fx.bld51_0_1_3 (x0 : Int) (x1 : ByteArray) (x3p : Option Addr) (x3n x3c : Nat) : buildN Tryz.prog 51 [(0,.int .i64 x0),(1,.string x1),(3,.slice x3p x3n x3c)] = some [.int .i64 x0,.string x1,.int .i64 0,.slice x3p x3n x3c] := by kernel_rfl
theorem Fx.bld51_0_3 (x0 : Int) (x3p : Option Addr) (x3n x3c : Nat) : buildN Tryz.prog 51 [(0,.int .i64 x0),(3,.slice x3p x3n x3c)] = some [.int .i64 x0,.string ⟨#[]⟩,.int .i64 0,.slice x3p x3n x3c] := by kernel_rfl
theorem Fx.bsl123_6 (x0 : Int) (x1 : Int) (x2 : Int) (x3 : Int) (x4 : Int) (x5 : Int) : bslN Tryz.prog 123 6 [(0,.int .i64 x0),(1,.int .i64 x1),(2,.int .i64 x2),(3,.int .i64 x3),(4,.int .i64 x4),(5,.int .i64 x5)] = some (3,[.int .i64 x0,.int .i64 x1,.int .i64 x2,.int .i64 x3,.int .i64 x4,.int .i64 x5]) := by kernel_rfl
theorem Fx.bsl49_2 (x00 x01 x02 x03 : Value) (x10 x11 x12 x13 : Value) : bslN Tryz.prog 49 2 [(0,.agg [x00,x01,x02,x03].toArray),(1,.agg [x10,x11,x12,x13].toArray)] = some (51,[x00,x01,x02,x03,x10,x11,x12,x13]) := by kernel_rfl
theorem Fx.call134 : callN Tryz.prog 134 = Bool.true := by kernel_rfl
theorem Fx.field126_2 : fieldN Tryz.prog 126 2 = Option.some 2 := by kernel_rfl
theorem Fx.agg122 : aggN Tryz.prog 122 = Option.some Option.none := by kernel_rfl
theorem Fx.agg123 : aggN Tryz.prog 123 = Option.some Option.none := by kernel_rfl
theorem Fx.call79 : callN Tryz.prog 79 = Bool.true := by kernel_rfl
theorem Fx.call136 : callN Tryz.prog 136 = Bool.true := by kernel_rfl
theorem Fx.field126_3 : fieldN Tryz.prog 126 3 = Option.some 3 := by kernel_rfl
theorem Fx.field126_4 : fieldN Tryz.prog 126 4 = Option.some 4 := by kernel_rfl
theorem Fx.sl122 : slN Tryz.prog 122 = Option.some 1 := by kernel_rfl
theorem Fx.bld150_0 (x0 : Int) : buildN Tryz.prog 150 [(0,.int .i64 x0)] = some [.int .i64 x0,.string ⟨#[]⟩,.string ⟨#[]⟩,.slice none 0 0,.slice none 0 0,.slice none 0 0] := by kernel_rfl
theorem Fx.bld150_0_1_2_3 (x0 : Int) (x1 : ByteArray) (x2 : ByteArray) (x3p : Option Addr) (x3n x3c : Nat) : buildN Tryz.prog 150 [(0,.int .i64 x0),(1,.string x1),(2,.string x2),(3,.slice x3p x3n x3c)] = some [.int .i64 x0,.string x1,.string x2,.slice x3p x3n x3c,.slice none 0 0,.slice none 0 0] := by kernel_rfl
theorem Fx.bld150_0_1_3 (x0 : Int) (x1 : ByteArray) (x3p : Option Addr) (x3n x3c : Nat) : buildN Tryz.prog 150 [(0,.int .i64 x0),(1,.string x1),(3,.slice x3p x3n x3c)] = some [.int .i64 x0,.string x1,.string ⟨#[]⟩,.slice x3p x3n x3c,.slice none 0 0,.slice none 0 0] := by kernel_rfl
theorem Fx.bld150_0_1_3_5 (x0 : Int) (x1 : ByteArray) (x3p : Option Addr) (x3n x3c : Nat) (x5p : Option Addr) (x5n x5c : Nat) : buildN Tryz.prog 150 [(0,.int .i64 x0),(1,.string x1),(3,.slice x3p x3n x3c),(5,.slice x5p x5n x5c)] = some [.int .i64 x0,.string x1,.string ⟨#[]⟩,.slice x3p x3n x3c,.slice none 0 0,.slice x5p x5n x5c] := by kernel_rfl
theorem Fx.bld150_0_2_3 (x0 : Int) (x2 : ByteArray) (x3p : Option Addr) (x3n x3c : Nat) : buildN Tryz.prog 150 [(0,.int .i64 x0),(2,.string x2),(3,.slice x3p x3n x3c)] = some [.int .i64 x0,.string ⟨#[]⟩,.string x2,.slice x3p x3n x3c,.slice none 0 0,.slice none 0 0] := by kernel_rfl
theorem Fx.bld150_0_3_4 (x0 : Int) (x3p : Option Addr) (x3n x3c : Nat) (x4p : Option Addr) (x4n x4c : Nat) : buildN Tryz.prog 150 [(0,.int .i64 x0),(3,.slice x3p x3n x3c),(4,.slice x4p x4n x4c)] = some [.int .i64 x0,.string ⟨#[]⟩,.string ⟨#[]⟩,.slice x3p x3n x3c,.slice x4p x4n x4c,.slice none 0 0] := by kernel_rfl
theorem Fx.bld150_0_3_4_5 (x0 : Int) (x3p : Option Addr) (x3n x3c : Nat) (x4p : Option Addr) (x4n x4c : Nat) (x5p : Option Addr) (x5n x5c : Nat) : buildN Tryz.prog 150 [(0,.int .i64 x0),(3,.slice x3p x3n x3c),(4,.slice x4p x4n x4c),(5,.slice x5p x5n x5c)] = some [.int .i64 x0,.string ⟨#[]⟩,.string ⟨#[]⟩,.slice x3p x3n x3c,.slice x4p x4n x4c,.slice x5p x5n x5c] := by kernel_rfl
theorem Fx.bld150_0_3_5 (x0 : Int) (x3p : Option Addr) (x3n x3c : Nat) (x5p : Option Addr) (x5n x5c : Nat) : buildN Tryz.prog 150 [(0,.int .i64 x0),(3,.slice x3p x3n x3c),(5,.slice x5p x5n x5c)] = some [.int .i64 x0,.string ⟨#[]⟩,.string ⟨#[]⟩,.slice x3p x3n x3c,.slice none 0 0,.slice x5p x5n x5c] := by kernel_rfl
theorem Fx.call113 : callN Tryz.prog 113 = Bool.true := by kernel_rfl
theorem Fx.field126_7 : fieldN Tryz.prog 126 7 = Option.some 7 := by kernel_rfl
theorem Fx.row98 : rowN Tryz.prog 98 = Option.some (150,6,112) := by kernel_rfl
theorem Fx.bsl98_1 (x00 x01 x02 x03 x04 x05 : Value) : bslN Tryz.prog 98 1 [(0,.agg [x00,x01,x02,x03,x04,x05].toArray)] = some (150,[x00,x01,x02,x03,x04,x05]) := by kernel_rfl
theorem Fx.agg128 : aggN Tryz.prog 128 = Option.some (Option.some 2) := by kernel_rfl
theorem Fx.call40 : callN Tryz.prog 40 = Bool.true := by kernel_rfl
theorem Fx.field128_1 : fieldN Tryz.prog 128 1 = Option.some 1 := by kernel_rfl
theorem Fx.row97 : rowN Tryz.prog 97 = Option.some (100,3,64) := by kernel_rfl
theorem Fx.size128 : sizeN Tryz.prog 128 = Option.some 2 := by kernel_rfl
theorem Fx.sl118 : slN Tryz.prog 118 = Option.some 2 := by kernel_rfl
theorem Fx.zero128 : zeroN Tryz.prog 128 = Option.some [Go.Value.int Go.IntKind.u8 (Int.ofNat 0),Go.Value.slice Option.none 0 0] := by kernel_rfl
theorem Fx.bld100_0_1_2 (x0 : ByteArray) (x1p : Option Addr) (x1n x1c : Nat) (x2p : Option Addr) (x2n x2c : Nat) : buildN Tryz.prog 100 [(0,.string x0),(1,.slice x1p x1n x1c),(2,.slice x2p x2n x2c)] = some [.string x0,.slice x1p x1n x1c,.slice x2p x2n x2c] := by kernel_rfl
theorem Fx.bsl97_1 (x00 x01 x02 : Value) : bslN Tryz.prog 97 1 [(0,.agg [x00,x01,x02].toArray)] = some (100,[x00,x01,x02]) := by kernel_rfl
theorem Fx.agg118 : aggN Tryz.prog 118 = Option.some Option.none := by kernel_rfl
theorem Fx.field120_2 : fieldN Tryz.prog 120 2 = Option.some 2 := by kernel_rfl
theorem Fx.field120_3 : fieldN Tryz.prog 120 3 = Option.some 3 := by kernel_rfl
theorem Fx.field128_0 : fieldN Tryz.prog 128 0 = Option.some 0 := by kernel_rfl
theorem Fx.row123 : rowN Tryz.prog 123 = Option.some (3,1,8) := by kernel_rfl
theorem Fx.bsl123_1 (x0 : Int) : bslN Tryz.prog 123 1 [(0,.int .i64 x0)] = some (3,[.int .i64 x0]) := by kernel_rfl
theorem Fx.call18 : callN Tryz.prog 18 = Bool.true := by kernel_rfl
theorem Fx.call50 : callN Tryz.prog 50 = Bool.true := by kernel_rfl
noncomputable def eqP (p : Prop) : Bool := @decide p (Classical.propDecidable p)
theorem eqP_iff {p : Prop} : eqP p = true ↔ p := by unfold eqP;exact @decide_eq_true_iff p (Classical.propDecidable p)
theorem eqP_false {p : Prop} : eqP p = false ↔ ¬ p := ⟨fun h k => (by rw [eqP_iff.2 k] at h;cases h),fun h => (by cases e : eqP p with | false => rfl | true => exact absurd (eqP_iff.1 e) h)⟩
def EqAt (gf : FuncId) {α : Type} (d : α → D) (H : Hp) (a b : α) : Prop := ∀ (ca cb : List Value) (w : World),Rep H (d a) ca → Rep H (d b) cb → Agr H w → Calls Tryz.prog gf #[.agg ca.toArray,.agg cb.toArray] w fun r w' => r = .returned (.bool (eqP (a = b))) ∧ Ext w w'
theorem take_eq_succ {α : Type} {l m : List α} {k : Nat} (h : k < l.length) (h2 : k < m.length) (ht : l.take k = m.take k) (he : l[k] = m[k]) : l.take (k + 1) = m.take (k + 1) := by rw [take_snoc h,take_snoc h2,ht,he]
set_option maxRecDepth 100000 in
theorem eqFuncE (H : Hp) (gf : FuncId) (hgf : callN Tryz.prog gf = true) (l m : List Ex) (hq : ∀ a ∈ l,∀ b,EqAt gf (dEx .u8) H a b) (v u : Value) (hs : Rep H (.seq 4 (l.map (dEx .u8))) [v]) (ht : Rep H (.seq 4 (m.map (dEx .u8))) [u]) (w : World) (hA : Agr H w) :
 Calls Tryz.prog 50 #[v,u,.func (.func gf) #[] #[]] w fun r w' => r = .returned (.bool (eqP (l = m))) ∧ Ext w w' := by
 obtain ⟨p,c,e,_⟩ := hs.sl
 simp only [List.cons.injEq,and_true,List.length_map] at e
 subst e
 obtain ⟨p2,c2,e,_⟩ := ht.sl
 simp only [List.cons.injEq,and_true,List.length_map] at e
 subst e
 have hcap := hs.cap
 have hcap2 := ht.cap
 refine Sx.enter (H := H) Tryz.func50 rfl Tryz.ntmps50 rfl hA ?_
 refine .sr<|.a Z Z<|.nt<|.sq<|.sr<|.m Z Z<|.yv (.lenSl Fx.sl58 Z) Z<|.m Z Z<|.yv (.lenSl Fx.sl58 Z) Z<|.yv (.neq Z Z) Z<|.nt<|.cd Z (fun h14 => ?_) (fun h14 => ?_)
 ·try simp only [dt] at h14
  have hne : ¬ l = m := fun e => by rw [e] at h14;exact h14 rfl
  refine .sr<|.a Z Z<|.nt<|.rt<|.tR<|?_
  refine Sx.ret1 (.inl rfl) rfl (.tmp rfl) fun W s => ⟨retB ?_,s.ext⟩
  first
   | (rw [eqP_iff];exact ⟨fun h => (by cases h),fun h => absurd h hne⟩)
   | (rw [eqP_iff];exact ⟨fun _ => heq,fun _ => rfl⟩)
 try simp only [df] at h14
 have hlen : l.length = m.length := by omega
 refine .sk<|.tN<|.sq<|.sr<|.m Z Z<|.yv (.lenSl Fx.sl58 Z) Z<|.m Z Z<|.nt<|.bk<|.lp (X := Nat) [(1,_),(2,_),(15,_),(16,_)] ⟨rfl,rfl,rfl,rfl,trivial⟩ [] (fun k => [(17,.int .i64 (k : Nat))]) (fun k => H) (fun k => []) (fun k => k ≤ l.length ∧ l.take k = m.take k) (fun k => l.length - k) 0 (fun _ s => s) ⟨rfl,trivial⟩ ⟨by omega,rfl⟩ fun k hC => ?_
 obtain ⟨hk0,hal⟩ := hC
 refine .sr<|.yv (.lss Z Z) Z<|.nt<|.sq<|.cd Z (fun h18 => ?_) (fun h18 => ?_)
 ·try simp only [dt] at h18
  have hk : k < l.length := by omega
  have hkm : k < m.length := by omega
  obtain ⟨bE,oE,cE,hpE,rE,lE,mE⟩ := hs.elem (map_at hk)
  cases hpE
  obtain ⟨bF,oF,cF,hpF,rF,lF,mF⟩ := ht.elem (map_at hkm)
  cases hpF
  refine .sk<|.tN<|.sq<|.bk<|.sr<|.m Z Z<|.yv (.indexSl Fx.sl58 Z Z Z (by omega) (q := oE + k * 4) Z) Z<|.yv (.loadMW Z Fx.agg60 mE lE) Z<|.al Fx.zero60 Z fun b8 => .a Z Z<|.sV .head Z Z Fx.size60 lE rE.one Z<|.ns<|.m Z Z<|.m Z Z<|.yv (.indexSl Fx.sl58 Z Z Z (by omega) (q := oF + k * 4) Z) Z<|.yv (.loadMW Z Fx.agg60 mF lF) Z<|.al Fx.zero60 Z fun b9 => .sV .head Z Z Fx.size60 lF rF.one Z<|.ns<|.m Z Z<|.yv (.loadW Z Fx.agg60 (.tail _<|.head _) lE) Z<|.yv (.loadW Z Fx.agg60 (.head _) lF) Z<|.yv (.callV (fi := []) (ca := []) Z hgf Z (fun W s => hq _ (List.getElem_mem hk) _ cE cF W rE rF s.agr)) Z<|.yv (.not Z) Z<|.nt<|.cd Z (fun h30 => ?_) (fun h30 => ?_)
  ·try simp only [dt] at h30
   have hne : ¬ l = m := fun e => by subst e;rw [eqP_iff.2 rfl] at h30;cases h30
   refine .sr<|.a Z Z<|.nt<|.rt<|.bR<|.tR<|.tR<|.bR<|.tR<|?_
   refine Sx.ret1 (.inl rfl) rfl (.tmp rfl) fun W s => ⟨retB ?_,s.ext⟩
   first
    | (rw [eqP_iff];exact ⟨fun h => (by cases h),fun h => absurd h hne⟩)
    | (rw [eqP_iff];exact ⟨fun _ => heq,fun _ => rfl⟩)
  try simp only [df] at h30
  have heq : l[k] = m[k] := eqP_iff.1 (by simpa using h30)
  exact .sk<|.bN<|.tN<|.rg<|.yv (.add Z Z (w6 (by omega))) Z<|.m Z Z<|.nt<|.ag (k + 1) ⟨rfl,trivial⟩ ⟨rfl,rfl,rfl,rfl,trivial⟩ (fun _ s => s.pick [] [] Z Z) ⟨by omega,take_eq_succ hk hkm hal heq⟩ (by omega)
 try simp only [df] at h18
 have heq : l = m := by
  have e : k = l.length := by omega
  have e2 : k = m.length := by omega
  have h1 := hal
  rw [e,List.take_length,hlen,List.take_length] at h1
  exact h1
 refine .ex<|.tE<|.tE<|.bE<|.tN<|.sr<|.a Z Z<|.nt<|.rt<|?_
 refine Sx.ret1 (.inl rfl) rfl (.tmp rfl) fun W s => ⟨retB ?_,s.ext⟩
 first
  | (rw [eqP_iff];exact ⟨fun h => (by cases h),fun h => absurd h hne⟩)
  | (rw [eqP_iff];exact ⟨fun _ => heq,fun _ => rfl⟩)
set_option maxRecDepth 100000 in
theorem equalExpr_any (H : Hp) (a : Ex) : ∀ b,EqAt 18 (dEx .u8) H a b := by
 induction a using Ex.ind with | _ op nm n args ih
 intro b ca cb w ha hb hA
 obtain ⟨op2,nm2,n2,args2⟩ := b
 obtain ⟨p,c,rfl,hs,hnm⟩ := ex_open ha
 obtain ⟨p2,c2,rfl,hs2,hnm2⟩ := ex_open hb
 refine Sx.enter (H := H) Tryz.func18 rfl Tryz.ntmps18 rfl hA ?_
 refine .sr<|.bx Z Z Z fun b2 => .bx Z Z Z fun b3 => .a Z Z<|.ns<|.yv (.fieldAddr Z Fx.field60_0) Z<|.yv (.load Z Fx.agg57 (.tail _<|.head _) Z) Z<|.yv (.fieldAddr Z Fx.field60_0) Z<|.yv (.load Z Fx.agg57 (.head _) Z) Z<|.yv (.eql Z Z) Z<|.m Z Z<|.b2 (fun h10 => ?_) (fun h10 => ?_)
 ·try simp only [dt] at h10
  have e1 : op = op2 := UInt8.toNat_inj.1 (by omega)
  refine .gd Z Z<|.yv (.fieldAddr Z Fx.field60_1) Z<|.gd Z Z<|.yv (.load Z Fx.agg9 (.tail _<|.head _) Z) Z<|.gd Z Z<|.yv (.fieldAddr Z Fx.field60_1) Z<|.gd Z Z<|.yv (.load Z Fx.agg9 (.head _) Z) Z<|.gd Z Z<|.yv (.eqS Z Z) Z<|.yv (.pickT Z Z) Z<|.m Z Z<|.b2 (fun h17 => ?_) (fun h17 => ?_)
  ·try simp only [dt] at h17
   have e2 : nm = nm2 := h17
   refine .gd Z Z<|.yv (.fieldAddr Z Fx.field60_2) Z<|.gd Z Z<|.yv (.load Z Fx.agg2 (.tail _<|.head _) Z) Z<|.gd Z Z<|.yv (.fieldAddr Z Fx.field60_2) Z<|.gd Z Z<|.yv (.load Z Fx.agg2 (.head _) Z) Z<|.gd Z Z<|.yv (.eql Z Z) Z<|.yv (.pickT Z Z) Z<|.m Z Z<|.b2 (fun h24 => ?_) (fun h24 => ?_)
   ·try simp only [dt] at h24
    have e3 : n = n2 := Int64.toInt_inj.1 h24
    refine .gd Z Z<|.yv (.fieldAddr Z Fx.field60_3) Z<|.gd Z Z<|.yv (.load Z Fx.agg58 (.tail _<|.head _) Z) Z<|.gd Z Z<|.yv (.fieldAddr Z Fx.field60_3) Z<|.gd Z Z<|.yv (.load Z Fx.agg58 (.head _) Z) Z<|.gd Z Z<|.yv (.call Fx.call50 Z (fun W s => eqFuncE H 18 Fx.call18 args args2 ih _ _ hs hs2 W s.agr)) Z<|.yv (.pickT Z Z) Z<|.a Z Z<|.nt<|.rt<|?_
    refine Sx.ret1 (.inl rfl) rfl (.tmp rfl) fun W s => ⟨retB ?_,s.ext⟩
    first
     | (rw [eqP_iff,eqP_iff,Ex.mk.injEq];exact ⟨fun d => ⟨e1,e2,e3,d⟩,fun h => h.2.2.2⟩)
     | (rw [eqP_iff,Ex.mk.injEq];exact ⟨fun h => (by cases h),fun h => absurd h.1 e1⟩)
     | (rw [eqP_iff,Ex.mk.injEq];exact ⟨fun h => (by cases h),fun h => absurd h.2.1 e2⟩)
     | (rw [eqP_iff,Ex.mk.injEq];exact ⟨fun h => (by cases h),fun h => absurd h.2.2.1 e3⟩)
   try simp only [df] at h24
   have e3 : ¬ n = n2 := fun e => h24 (by rw [e])
   refine .gF Z Z Z Z<|.gF Z Z Z Z<|.gF Z Z Z Z<|.gF Z Z Z Z<|.gF Z Z Z Z<|.yv (.pickF Z Z) Z<|.a Z Z<|.nt<|.rt<|?_
   refine Sx.ret1 (.inl rfl) rfl (.tmp rfl) fun W s => ⟨retB ?_,s.ext⟩
   first
    | (rw [eqP_iff,eqP_iff,Ex.mk.injEq];exact ⟨fun d => ⟨e1,e2,e3,d⟩,fun h => h.2.2.2⟩)
    | (rw [eqP_iff,Ex.mk.injEq];exact ⟨fun h => (by cases h),fun h => absurd h.1 e1⟩)
    | (rw [eqP_iff,Ex.mk.injEq];exact ⟨fun h => (by cases h),fun h => absurd h.2.1 e2⟩)
    | (rw [eqP_iff,Ex.mk.injEq];exact ⟨fun h => (by cases h),fun h => absurd h.2.2.1 e3⟩)
  try simp only [df] at h17
  have e2 : ¬ nm = nm2 := h17
  refine .gF Z Z Z Z<|.gF Z Z Z Z<|.gF Z Z Z Z<|.gF Z Z Z Z<|.gF Z Z Z Z<|.yv (.pickF Z Z) Z<|.m Z Z<|.gF Z Z Z Z<|.gF Z Z Z Z<|.gF Z Z Z Z<|.gF Z Z Z Z<|.gF Z Z Z Z<|.yv (.pickF Z Z) Z<|.a Z Z<|.nt<|.rt<|?_
  refine Sx.ret1 (.inl rfl) rfl (.tmp rfl) fun W s => ⟨retB ?_,s.ext⟩
  first
   | (rw [eqP_iff,eqP_iff,Ex.mk.injEq];exact ⟨fun d => ⟨e1,e2,e3,d⟩,fun h => h.2.2.2⟩)
   | (rw [eqP_iff,Ex.mk.injEq];exact ⟨fun h => (by cases h),fun h => absurd h.1 e1⟩)
   | (rw [eqP_iff,Ex.mk.injEq];exact ⟨fun h => (by cases h),fun h => absurd h.2.1 e2⟩)
   | (rw [eqP_iff,Ex.mk.injEq];exact ⟨fun h => (by cases h),fun h => absurd h.2.2.1 e3⟩)
 try simp only [df] at h10
 have e1 : ¬ op = op2 := fun e => h10 (by rw [e])
 refine .gF Z Z Z Z<|.gF Z Z Z Z<|.gF Z Z Z Z<|.gF Z Z Z Z<|.gF Z Z Z Z<|.yv (.pickF Z Z) Z<|.m Z Z<|.gF Z Z Z Z<|.gF Z Z Z Z<|.gF Z Z Z Z<|.gF Z Z Z Z<|.gF Z Z Z Z<|.yv (.pickF Z Z) Z<|.m Z Z<|.gF Z Z Z Z<|.gF Z Z Z Z<|.gF Z Z Z Z<|.gF Z Z Z Z<|.gF Z Z Z Z<|.yv (.pickF Z Z) Z<|.a Z Z<|.nt<|.rt<|?_
 refine Sx.ret1 (.inl rfl) rfl (.tmp rfl) fun W s => ⟨retB ?_,s.ext⟩
 first
  | (rw [eqP_iff,eqP_iff,Ex.mk.injEq];exact ⟨fun d => ⟨e1,e2,e3,d⟩,fun h => h.2.2.2⟩)
  | (rw [eqP_iff,Ex.mk.injEq];exact ⟨fun h => (by cases h),fun h => absurd h.1 e1⟩)
  | (rw [eqP_iff,Ex.mk.injEq];exact ⟨fun h => (by cases h),fun h => absurd h.2.1 e2⟩)
  | (rw [eqP_iff,Ex.mk.injEq];exact ⟨fun h => (by cases h),fun h => absurd h.2.2.1 e3⟩)
theorem Fx.agg23 : aggN Tryz.prog 23 = Option.some Option.none := by kernel_rfl
theorem Fx.agg28 : aggN Tryz.prog 28 = Option.some Option.none := by kernel_rfl
theorem Fx.agg29 : aggN Tryz.prog 29 = Option.some Option.none := by kernel_rfl
theorem Fx.agg30 : aggN Tryz.prog 30 = Option.some Option.none := by kernel_rfl
theorem Fx.agg32 : aggN Tryz.prog 32 = Option.some (Option.some 4) := by kernel_rfl
theorem Fx.agg88 : aggN Tryz.prog 88 = Option.some Option.none := by kernel_rfl
theorem Fx.agg89 : aggN Tryz.prog 89 = Option.some Option.none := by kernel_rfl
theorem Fx.agg91 : aggN Tryz.prog 91 = Option.some (Option.some 3) := by kernel_rfl
theorem Fx.agg120 : aggN Tryz.prog 120 = Option.some (Option.some 4) := by kernel_rfl
theorem Fx.call42 : callN Tryz.prog 42 = Bool.true := by kernel_rfl
theorem Fx.call43 : callN Tryz.prog 43 = Bool.true := by kernel_rfl
theorem Fx.field25_0 : fieldN Tryz.prog 25 0 = Option.some 0 := by kernel_rfl
theorem Fx.field25_1 : fieldN Tryz.prog 25 1 = Option.some 1 := by kernel_rfl
theorem Fx.field25_2 : fieldN Tryz.prog 25 2 = Option.some 2 := by kernel_rfl
theorem Fx.field32_1 : fieldN Tryz.prog 32 1 = Option.some 1 := by kernel_rfl
theorem Fx.field32_2 : fieldN Tryz.prog 32 2 = Option.some 2 := by kernel_rfl
theorem Fx.field32_3 : fieldN Tryz.prog 32 3 = Option.some 3 := by kernel_rfl
theorem Fx.field91_1 : fieldN Tryz.prog 91 1 = Option.some 1 := by kernel_rfl
theorem Fx.field91_2 : fieldN Tryz.prog 91 2 = Option.some 2 := by kernel_rfl
theorem Fx.field120_0 : fieldN Tryz.prog 120 0 = Option.some 0 := by kernel_rfl
theorem Fx.field120_1 : fieldN Tryz.prog 120 1 = Option.some 1 := by kernel_rfl
theorem Fx.row28 : rowN Tryz.prog 28 = Option.some (84,2,24) := by kernel_rfl
theorem Fx.row29 : rowN Tryz.prog 29 = Option.some (86,3,40) := by kernel_rfl
theorem Fx.row30 : rowN Tryz.prog 30 = Option.some (91,3,64) := by kernel_rfl
theorem Fx.row88 : rowN Tryz.prog 88 = Option.some (93,3,32) := by kernel_rfl
theorem Fx.row89 : rowN Tryz.prog 89 = Option.some (97,1,24) := by kernel_rfl
theorem Fx.row122 : rowN Tryz.prog 122 = Option.some (123,1,24) := by kernel_rfl
theorem Fx.size28 : sizeN Tryz.prog 28 = Option.some 1 := by kernel_rfl
theorem Fx.size29 : sizeN Tryz.prog 29 = Option.some 1 := by kernel_rfl
theorem Fx.size30 : sizeN Tryz.prog 30 = Option.some 1 := by kernel_rfl
theorem Fx.size32 : sizeN Tryz.prog 32 = Option.some 4 := by kernel_rfl
theorem Fx.size88 : sizeN Tryz.prog 88 = Option.some 1 := by kernel_rfl
theorem Fx.size89 : sizeN Tryz.prog 89 = Option.some 1 := by kernel_rfl
theorem Fx.size91 : sizeN Tryz.prog 91 = Option.some 3 := by kernel_rfl
theorem Fx.size120 : sizeN Tryz.prog 120 = Option.some 4 := by kernel_rfl
theorem Fx.size126 : sizeN Tryz.prog 126 = Option.some 8 := by kernel_rfl
theorem Fx.sl23 : slN Tryz.prog 23 = Option.some 4 := by kernel_rfl
theorem Fx.sl28 : slN Tryz.prog 28 = Option.some 2 := by kernel_rfl
theorem Fx.zero32 : zeroN Tryz.prog 32 = Option.some
 [Go.Value.string { data := { toList := [] } },Go.Value.slice Option.none 0 0,Go.Value.slice Option.none 0 0,
  Go.Value.slice Option.none 0 0] := by kernel_rfl
theorem Fx.zero91 : zeroN Tryz.prog 91 = Option.some
 [Go.Value.string { data := { toList := [] } },Go.Value.slice Option.none 0 0,Go.Value.slice Option.none 0 0] := by kernel_rfl
theorem Fx.zero120 : zeroN Tryz.prog 120 = Option.some
 [Go.Value.int Go.IntKind.u8 (Int.ofNat 0),Go.Value.int Go.IntKind.u8 (Int.ofNat 0),Go.Value.slice Option.none 0 0,
  Go.Value.slice Option.none 0 0] := by kernel_rfl
theorem Fx.zero126 : zeroN Tryz.prog 126 = Option.some
 [Go.Value.int Go.IntKind.i64 (Int.ofNat 0),Go.Value.int Go.IntKind.i64 (Int.ofNat 0),
  Go.Value.int Go.IntKind.i64 (Int.ofNat 0),Go.Value.int Go.IntKind.i64 (Int.ofNat 0),
  Go.Value.slice Option.none 0 0,Go.Value.int Go.IntKind.i64 (Int.ofNat 0),Go.Value.slice Option.none 0 0,
  Go.Value.int Go.IntKind.i64 (Int.ofNat 0)] := by kernel_rfl
theorem Fx.bld120  : buildN Tryz.prog 120 [] = some [.int .u8 0,.int .u8 0,.slice none 0 0,.slice none 0 0] := by kernel_rfl
theorem Fx.bld126_0_1_2_3_4 (x0 : Int) (x1 : Int) (x2 : Int) (x3 : Int) (x4p : Option Addr) (x4n x4c : Nat) : buildN Tryz.prog 126 [(0,.int .i64 x0),(1,.int .i64 x1),(2,.int .i64 x2),(3,.int .i64 x3),(4,.slice x4p x4n x4c)] = some [.int .i64 x0,.int .i64 x1,.int .i64 x2,.int .i64 x3,.slice x4p x4n x4c,.int .i64 0,.slice none 0 0,.int .i64 0] := by kernel_rfl
theorem Fx.bld128_0 (x0 : Int) : buildN Tryz.prog 128 [(0,.int .u8 x0)] = some [.int .u8 x0,.slice none 0 0] := by kernel_rfl
theorem Fx.bld32_0 (x0 : ByteArray) : buildN Tryz.prog 32 [(0,.string x0)] = some [.string x0,.slice none 0 0,.slice none 0 0,.slice none 0 0] := by kernel_rfl
theorem Fx.bld84_0_1 (x0 : ByteArray) (x1 : Bool) : buildN Tryz.prog 84 [(0,.string x0),(1,.bool x1)] = some [.string x0,.bool x1] := by kernel_rfl
theorem Fx.bld86_0_1_2 (x0 : ByteArray) (x1 : ByteArray) (x2 : Int) : buildN Tryz.prog 86 [(0,.string x0),(1,.string x1),(2,.int .i64 x2)] = some [.string x0,.string x1,.int .i64 x2] := by kernel_rfl
theorem Fx.bld91_0 (x0 : ByteArray) : buildN Tryz.prog 91 [(0,.string x0)] = some [.string x0,.slice none 0 0,.slice none 0 0] := by kernel_rfl
theorem Fx.bld93_0_1_2 (x0 : ByteArray) (x1 : Int) (x2 : Int) : buildN Tryz.prog 93 [(0,.string x0),(1,.int .i64 x1),(2,.int .i64 x2)] = some [.string x0,.int .i64 x1,.int .i64 x2] := by kernel_rfl
theorem Fx.bsl118_1 (x00 x01 : Value) : bslN Tryz.prog 118 1 [(0,.agg [x00,x01].toArray)] = some (128,[x00,x01]) := by kernel_rfl
theorem Fx.bsl122_1 (x0p : Option Addr) (x0n x0c : Nat) : bslN Tryz.prog 122 1 [(0,.slice x0p x0n x0c)] = some (123,[.slice x0p x0n x0c]) := by kernel_rfl
theorem Fx.bsl23_1 (x00 x01 x02 x03 : Value) : bslN Tryz.prog 23 1 [(0,.agg [x00,x01,x02,x03].toArray)] = some (120,[x00,x01,x02,x03]) := by kernel_rfl
theorem Fx.bsl28_1 (x00 x01 : Value) : bslN Tryz.prog 28 1 [(0,.agg [x00,x01].toArray)] = some (84,[x00,x01]) := by kernel_rfl
theorem Fx.bsl29_1 (x00 x01 x02 : Value) : bslN Tryz.prog 29 1 [(0,.agg [x00,x01,x02].toArray)] = some (86,[x00,x01,x02]) := by kernel_rfl
theorem Fx.bsl30_1 (x00 x01 x02 : Value) : bslN Tryz.prog 30 1 [(0,.agg [x00,x01,x02].toArray)] = some (91,[x00,x01,x02]) := by kernel_rfl
theorem Fx.bsl88_1 (x00 x01 x02 : Value) : bslN Tryz.prog 88 1 [(0,.agg [x00,x01,x02].toArray)] = some (93,[x00,x01,x02]) := by kernel_rfl
theorem Fx.bsl89_1 (x0p : Option Addr) (x0n x0c : Nat) : bslN Tryz.prog 89 1 [(0,.slice x0p x0n x0c)] = some (97,[.slice x0p x0n x0c]) := by kernel_rfl
theorem Fx.agg53 : aggN Tryz.prog 53 = Option.some Option.none := by kernel_rfl
theorem Fx.call17 : callN Tryz.prog 17 = Bool.true := by kernel_rfl
theorem Fx.call93 : callN Tryz.prog 93 = Bool.true := by kernel_rfl
theorem Fx.field55_0 : fieldN Tryz.prog 55 0 = Option.some 0 := by kernel_rfl
theorem Fx.field55_2 : fieldN Tryz.prog 55 2 = Option.some 2 := by kernel_rfl
theorem Fx.field55_3 : fieldN Tryz.prog 55 3 = Option.some 3 := by kernel_rfl
theorem Fx.field55_4 : fieldN Tryz.prog 55 4 = Option.some 4 := by kernel_rfl
theorem Fx.field150_0 : fieldN Tryz.prog 150 0 = Option.some 0 := by kernel_rfl
theorem Fx.field150_1 : fieldN Tryz.prog 150 1 = Option.some 1 := by kernel_rfl
theorem Fx.field150_2 : fieldN Tryz.prog 150 2 = Option.some 2 := by kernel_rfl
theorem Fx.field150_3 : fieldN Tryz.prog 150 3 = Option.some 3 := by kernel_rfl
theorem Fx.int2 : intN Tryz.prog 2 = Option.some Go.IntKind.i64 := by kernel_rfl
theorem Fx.int139 : intN Tryz.prog 139 = Option.some Go.IntKind.u64 := by kernel_rfl
theorem Fx.bsl49_0  : bslN Tryz.prog 49 0 [] = some (51,[]) := by kernel_rfl
theorem Fx.agg55 : aggN Tryz.prog 55 = Option.some (Option.some 5) := by kernel_rfl
theorem Fx.agg100 : aggN Tryz.prog 100 = Option.some (Option.some 3) := by kernel_rfl
theorem Fx.call94 : callN Tryz.prog 94 = Bool.true := by kernel_rfl
theorem Fx.field55_1 : fieldN Tryz.prog 55 1 = Option.some 1 := by kernel_rfl
theorem Fx.field100_0 : fieldN Tryz.prog 100 0 = Option.some 0 := by kernel_rfl
theorem Fx.field100_1 : fieldN Tryz.prog 100 1 = Option.some 1 := by kernel_rfl
theorem Fx.field100_2 : fieldN Tryz.prog 100 2 = Option.some 2 := by kernel_rfl
theorem Fx.size66 : sizeN Tryz.prog 66 = Option.some 1 := by kernel_rfl
theorem Fx.size98 : sizeN Tryz.prog 98 = Option.some 1 := by kernel_rfl
theorem Fx.size100 : sizeN Tryz.prog 100 = Option.some 3 := by kernel_rfl
theorem Fx.sl97 : slN Tryz.prog 97 = Option.some 3 := by kernel_rfl
theorem Fx.zero100 : zeroN Tryz.prog 100 = Option.some
 [Go.Value.string { data := { toList := [] } },Go.Value.slice Option.none 0 0,Go.Value.slice Option.none 0 0] := by kernel_rfl
theorem Fx.bld100_0 (x0 : ByteArray) : buildN Tryz.prog 100 [(0,.string x0)] = some [.string x0,.slice none 0 0,.slice none 0 0] := by kernel_rfl
theorem Fx.bsl66_0  : bslN Tryz.prog 66 0 [] = some (9,[]) := by kernel_rfl
theorem Fx.bsl97_0  : bslN Tryz.prog 97 0 [] = some (100,[]) := by kernel_rfl
theorem Fx.bsl98_0  : bslN Tryz.prog 98 0 [] = some (150,[]) := by kernel_rfl
theorem Fx.agg97 : aggN Tryz.prog 97 = Option.some Option.none := by kernel_rfl
theorem Fx.call54 : callN Tryz.prog 54 = Bool.true := by kernel_rfl
theorem Fx.field32_0 : fieldN Tryz.prog 32 0 = Option.some 0 := by kernel_rfl
theorem Fx.field91_0 : fieldN Tryz.prog 91 0 = Option.some 0 := by kernel_rfl
theorem Fx.size97 : sizeN Tryz.prog 97 = Option.some 1 := by kernel_rfl
theorem Fx.sl30 : slN Tryz.prog 30 = Option.some 3 := by kernel_rfl
theorem Fx.sl89 : slN Tryz.prog 89 = Option.some 1 := by kernel_rfl
theorem Fx.bld84_0 (x0 : ByteArray) : buildN Tryz.prog 84 [(0,.string x0)] = some [.string x0,.bool false] := by kernel_rfl
theorem Fx.bld93_0_1 (x0 : ByteArray) (x1 : Int) : buildN Tryz.prog 93 [(0,.string x0),(1,.int .i64 x1)] = some [.string x0,.int .i64 x1,.int .i64 0] := by kernel_rfl
theorem Fx.bsl28_0  : bslN Tryz.prog 28 0 [] = some (84,[]) := by kernel_rfl
theorem Fx.bsl29_0  : bslN Tryz.prog 29 0 [] = some (86,[]) := by kernel_rfl
theorem Fx.bsl30_0  : bslN Tryz.prog 30 0 [] = some (91,[]) := by kernel_rfl
theorem Fx.bsl88_0  : bslN Tryz.prog 88 0 [] = some (93,[]) := by kernel_rfl
theorem Fx.bsl89_0  : bslN Tryz.prog 89 0 [] = some (97,[]) := by kernel_rfl
theorem Fx.agg25 : aggN Tryz.prog 25 = Option.some (Option.some 3) := by kernel_rfl
theorem Fx.call14 : callN Tryz.prog 14 = Bool.true := by kernel_rfl
theorem Fx.call23 : callN Tryz.prog 23 = Bool.true := by kernel_rfl
theorem Fx.size55 : sizeN Tryz.prog 55 = Option.some 5 := by kernel_rfl
theorem Fx.sl26 : slN Tryz.prog 26 = Option.some 5 := by kernel_rfl
theorem Fx.zero55 : zeroN Tryz.prog 55 = Option.some
 [Go.Value.int Go.IntKind.u8 (Int.ofNat 0),Go.Value.int Go.IntKind.u8 (Int.ofNat 0),
  Go.Value.int Go.IntKind.u8 (Int.ofNat 0),Go.Value.int Go.IntKind.i64 (Int.ofNat 0),Go.Value.slice Option.none 0 0] := by kernel_rfl
theorem Fx.call27 : callN Tryz.prog 27 = Bool.true := by kernel_rfl
theorem Fx.int67 : intN Tryz.prog 67 = Option.some Go.IntKind.u8 := by kernel_rfl
theorem Fx.row69 : rowN Tryz.prog 69 = Option.some (71,6,112) := by kernel_rfl
theorem Fx.bld71_0_1_2_4_5 (x0 : Int) (x1 : ByteArray) (x2 : ByteArray) (x4p : Option Addr) (x4n x4c : Nat) (x5p : Option Addr) (x5n x5c : Nat) : buildN Tryz.prog 71 [(0,.int .u8 x0),(1,.string x1),(2,.string x2),(4,.slice x4p x4n x4c),(5,.slice x5p x5n x5c)] = some [.int .u8 x0,.string x1,.string x2,.slice none 0 0,.slice x4p x4n x4c,.slice x5p x5n x5c] := by kernel_rfl
theorem Fx.agg84 : aggN Tryz.prog 84 = Option.some (Option.some 2) := by kernel_rfl
theorem Fx.agg86 : aggN Tryz.prog 86 = Option.some (Option.some 3) := by kernel_rfl
theorem Fx.agg93 : aggN Tryz.prog 93 = Option.some (Option.some 3) := by kernel_rfl
theorem Fx.field84_0 : fieldN Tryz.prog 84 0 = Option.some 0 := by kernel_rfl
theorem Fx.field84_1 : fieldN Tryz.prog 84 1 = Option.some 1 := by kernel_rfl
theorem Fx.field86_0 : fieldN Tryz.prog 86 0 = Option.some 0 := by kernel_rfl
theorem Fx.field86_1 : fieldN Tryz.prog 86 1 = Option.some 1 := by kernel_rfl
theorem Fx.field86_2 : fieldN Tryz.prog 86 2 = Option.some 2 := by kernel_rfl
theorem Fx.field93_0 : fieldN Tryz.prog 93 0 = Option.some 0 := by kernel_rfl
theorem Fx.field93_1 : fieldN Tryz.prog 93 1 = Option.some 1 := by kernel_rfl
theorem Fx.field93_2 : fieldN Tryz.prog 93 2 = Option.some 2 := by kernel_rfl
theorem Fx.int94 : intN Tryz.prog 94 = Option.some Go.IntKind.u8 := by kernel_rfl
theorem Fx.row36 : rowN Tryz.prog 36 = Option.some (65,2,24) := by kernel_rfl
theorem Fx.row37 : rowN Tryz.prog 37 = Option.some (87,3,40) := by kernel_rfl
theorem Fx.row38 : rowN Tryz.prog 38 = Option.some (80,3,64) := by kernel_rfl
theorem Fx.row74 : rowN Tryz.prog 74 = Option.some (73,3,64) := by kernel_rfl
theorem Fx.row77 : rowN Tryz.prog 77 = Option.some (76,1,24) := by kernel_rfl
theorem Fx.row78 : rowN Tryz.prog 78 = Option.some (96,3,32) := by kernel_rfl
theorem Fx.size36 : sizeN Tryz.prog 36 = Option.some 1 := by kernel_rfl
theorem Fx.size37 : sizeN Tryz.prog 37 = Option.some 1 := by kernel_rfl
theorem Fx.size38 : sizeN Tryz.prog 38 = Option.some 1 := by kernel_rfl
theorem Fx.size74 : sizeN Tryz.prog 74 = Option.some 1 := by kernel_rfl
theorem Fx.size77 : sizeN Tryz.prog 77 = Option.some 1 := by kernel_rfl
theorem Fx.size78 : sizeN Tryz.prog 78 = Option.some 1 := by kernel_rfl
theorem Fx.size84 : sizeN Tryz.prog 84 = Option.some 2 := by kernel_rfl
theorem Fx.size86 : sizeN Tryz.prog 86 = Option.some 3 := by kernel_rfl
theorem Fx.size93 : sizeN Tryz.prog 93 = Option.some 3 := by kernel_rfl
theorem Fx.sl29 : slN Tryz.prog 29 = Option.some 3 := by kernel_rfl
theorem Fx.sl88 : slN Tryz.prog 88 = Option.some 3 := by kernel_rfl
theorem Fx.zero84 : zeroN Tryz.prog 84 = Option.some [Go.Value.string { data := { toList := [] } },Go.Value.bool Bool.false] := by kernel_rfl
theorem Fx.zero86 : zeroN Tryz.prog 86 = Option.some
 [Go.Value.string { data := { toList := [] } },Go.Value.string { data := { toList := [] } },
  Go.Value.int Go.IntKind.i64 (Int.ofNat 0)] := by kernel_rfl
theorem Fx.zero93 : zeroN Tryz.prog 93 = Option.some
 [Go.Value.string { data := { toList := [] } },Go.Value.int Go.IntKind.i64 (Int.ofNat 0),
  Go.Value.int Go.IntKind.i64 (Int.ofNat 0)] := by kernel_rfl
theorem Fx.bld40_0 (x0 : ByteArray) : buildN Tryz.prog 40 [(0,.string x0)] = some [.string x0,.slice none 0 0,.slice none 0 0,.slice none 0 0] := by kernel_rfl
theorem Fx.bld80_0 (x0 : ByteArray) : buildN Tryz.prog 80 [(0,.string x0)] = some [.string x0,.slice none 0 0,.slice none 0 0] := by kernel_rfl
theorem Fx.bld87_0_1_2 (x0 : ByteArray) (x1 : ByteArray) (x2 : Int) : buildN Tryz.prog 87 [(0,.string x0),(1,.string x1),(2,.int .i64 x2)] = some [.string x0,.string x1,.int .i64 x2] := by kernel_rfl
theorem Fx.bld96_0_1_2 (x0 : ByteArray) (x1 : Int) (x2 : Int) : buildN Tryz.prog 96 [(0,.string x0),(1,.int .u8 x1),(2,.int .i64 x2)] = some [.string x0,.int .u8 x1,.int .i64 x2] := by kernel_rfl
theorem Fx.bsl37_1 (x00 x01 x02 : Value) : bslN Tryz.prog 37 1 [(0,.agg [x00,x01,x02].toArray)] = some (87,[x00,x01,x02]) := by kernel_rfl
theorem Fx.bsl78_1 (x00 x01 x02 : Value) : bslN Tryz.prog 78 1 [(0,.agg [x00,x01,x02].toArray)] = some (96,[x00,x01,x02]) := by kernel_rfl
end Go.Proofs.YtmbiojpcidccjaaGreatDoor
namespace Go.Proofs.YtmbiojpcidccjaaGreatDoor
open Go.RowKit Go.Par Go.Sx
open Go.RowKit Go.Par Go.Sx
open Go.RowKit Go.Par Go.Sx
open Go.RowKit Go.Par Go.Sx
open Go.RowKit Go.Par Go.Sx
open Go.RowKit Go.Par Go.Sx
end Go.Proofs.YtmbiojpcidccjaaGreatDoor
namespace Go.Proofs.YtmbiojpcidccjaaGreatDoor
open Go.RowKit Go.Par Go.Sx
theorem Fx.call7 : callN Tryz.prog 7 = Bool.true := by kernel_rfl
theorem Fx.call8 : callN Tryz.prog 8 = Bool.true := by kernel_rfl
theorem Fx.call10 : callN Tryz.prog 10 = Bool.true := by kernel_rfl
end Go.Proofs.YtmbiojpcidccjaaGreatDoor
namespace Go.Sx
open Go.RowKit Go.Par
inductive Ty where
 | int (k : IntKind)
 | bool
 | strg
 | seq (τ : Ty)
 | str (fs : List Ty)
 | arr (n : Nat) (τ : Ty)
mutual
def Ty.cells : Ty → Nat
 | .int _ => 1
 | .bool => 1
 | .strg => 1
 | .seq _ => 1
 | .str fs => Ty.cellsL fs
 | .arr n τ => n * Ty.cells τ
def Ty.cellsL : List Ty → Nat
 | [] => 0
 | τ :: r => Ty.cells τ + Ty.cellsL r
end
mutual
def Ty.at (P : Program) : Ty → TypeId → Bool
 | .int k,t => match P.underlying t with | some (.int k') => decide (k' = k) | _ => false
 | .bool,t => match P.underlying t with | some .bool => true | _ => false
 | .strg,t => match P.underlying t with | some .string => true | _ => false
 | .seq τ,t => match P.underlying t with | some (.slice e) => Ty.at P τ e && decide (P.cellsOf e = Ty.cells τ) && decide (0 < Ty.cells τ) | _ => false
 | .str fs,t => match P.underlying t with | some (.struct g) => decide (P.cellsOf t = Ty.cellsL fs) && Ty.atL P fs g.toList 0 | _ => false
 | .arr n τ,t => match P.underlying t with | some (.array m e) => decide (m = n) && Ty.at P τ e && decide (P.cellsOf e = Ty.cells τ) && decide (P.cellsOf t = n * Ty.cells τ) | _ => false
def Ty.atL (P : Program) : List Ty → List Field → Nat → Bool
 | [],[],_ => true
 | τ :: r,f :: g,o => Ty.at P τ f.type && decide (f.offset = o) && decide (P.cellsOf f.type = Ty.cells τ) && Ty.atL P r g (o + Ty.cells τ)
 | _,_,_ => false
end
mutual
def Ty.has : Ty → D → Prop
 | .int k,d => ∃ n,d = .val (.int k n) ∧ (Lit.int k n).wf = true
 | .bool,d => ∃ b,d = .val (.bool b)
 | .strg,_ => False
 | .seq τ,d => ∃ ds,d = .seq (Ty.cells τ) ds ∧ ∀ x ∈ ds,Ty.has τ x
 | .str fs,d => ∃ ds,d = .str ds ∧ Ty.hasL fs ds
 | .arr _ _,_ => False
def Ty.hasL : List Ty → List D → Prop
 | [],ds => ds = []
 | τ :: r,ds => ∃ d q,ds = d :: q ∧ Ty.has τ d ∧ Ty.hasL r q
end
mutual
def Ty.opn : Ty → Bool
 | .int _ => true
 | .bool => true
 | .strg => false
 | .seq τ => Ty.opn τ
 | .str fs => Ty.opnL fs
 | .arr _ _ => false
def Ty.opnL : List Ty → Bool
 | [] => true
 | τ :: r => Ty.opn τ && Ty.opnL r
end
mutual
def Ty.pln : Ty → Bool
 | .int _ => true
 | .bool => true
 | .strg => true
 | .seq _ => false
 | .str fs => Ty.plnL fs
 | .arr _ τ => Ty.pln τ
def Ty.plnL : List Ty → Bool
 | [] => true
 | τ :: r => Ty.pln τ && Ty.plnL r
end
def allH (W : World) : Hp := fun b => W.heap[b]?
theorem allH_agr (W : World) : Agr (allH W) W := fun _ _ h => h
theorem cell_block {W : World} {a : Addr} {v : Value} (h : W.cell? a = some v) : ∃ cs t m,W.heap[a.block]? = some (.cells cs t m) ∧ a.spot = Option.none ∧ cs[a.off]? = some v := by
 unfold World.cell? at h
 split at h
 ·rename_i cs t m e
  split at h
  ·cases h
  ·rename_i hs
   exact ⟨cs,t,m,e,by simpa using hs,h⟩
 ·cases h
theorem add_add (a : Addr) (x y : Nat) : (a.add x).add y = a.add (x + y) := by
 by_cases hx : x = 0
 ·subst hx;simp [Addr.add]
 ·by_cases hy : y = 0
  ·subst hy;simp [Addr.add]
  ·simp [Addr.add,hx,hy,Nat.add_assoc]
section
variable {H : Type} {enc : TypeId × Value → H} {P : Program} {base : Nat} {sp : Nat → Bool} {held : Bool}
mutual
theorem Ty.opens (W : World) : ∀ (τ : Ty) (t : TypeId) (fuel : Nat) (cs : List Value) (x : DataW H × List MemPlace),Ty.at P τ t = true → Ty.opn τ = true → DataW.trod enc P W base sp held fuel t cs = some x → ∃ d,Ty.has τ d ∧ Rep (allH W) d cs
 | .int k,t,fuel,cs,x,ha,_,h => by
  unfold Ty.at at ha
  split at ha
  ·rename_i k' hu
   obtain rfl : k' = k := by simpa using ha
   obtain ⟨n,rfl,_,hw⟩ := DataW.trod_int hu h
   refine ⟨.val (.int k' n),?_,?_⟩
   ·unfold Ty.has;exact ⟨n,rfl,hw⟩
   ·unfold Rep;exact ⟨rfl,rfl,trivial⟩
  ·cases ha
 | .bool,t,fuel,cs,x,ha,_,h => by
  unfold Ty.at at ha
  split at ha
  ·rename_i hu
   obtain ⟨b,rfl,_⟩ := DataW.trod_bool hu h
   refine ⟨.val (.bool b),?_,?_⟩
   ·unfold Ty.has;exact ⟨b,rfl⟩
   ·unfold Rep;exact ⟨rfl,rfl,trivial⟩
  ·cases ha
 | .strg,_,_,_,_,_,ho,_ => by simp [Ty.opn] at ho
 | .arr _ _,_,_,_,_,_,ho,_ => by simp [Ty.opn] at ho
 | .str fs,t,fuel,cs,x,ha,ho,h => by
  unfold Ty.at at ha
  split at ha
  ·rename_i g hu
   simp only [Bool.and_eq_true,decide_eq_true_eq] at ha
   unfold Ty.opn at ho
   obtain ⟨xs,n,_,rfl,hl,hlen,hf⟩ := DataW.trod_struct hu h
   obtain ⟨ds,h1,h2⟩ := Ty.opensL W fs g.toList 0 n cs ha.2 ho (by rw [hl,ha.1];omega) (fun i f hi => by
    have hi2 : g[i]? = some f := by simpa using hi
    have := hf i f hi2
    have hlt : i < xs.length := by rw [hlen];exact (Array.getElem?_eq_some_iff.1 hi2).1
    rw [List.getElem?_eq_getElem hlt] at this
    exact ⟨_,this⟩)
   refine ⟨.str ds,?_,?_⟩
   ·unfold Ty.has;exact ⟨ds,rfl,h1⟩
   ·unfold Rep;simpa using h2
  ·cases ha
 | .seq τ,t,fuel,cs,x,ha,ho,h => by
  unfold Ty.at at ha
  split at ha
  ·rename_i e hu
   simp only [Bool.and_eq_true,decide_eq_true_eq] at ha
   obtain ⟨⟨ha,hz⟩,h0⟩ := ha
   unfold Ty.opn at ho
   rcases Go.Deep.open_slice hu h with ⟨rfl,-⟩ | ⟨a,len,cap,m,n,D,Pl,rfl,-,hl,hm,hmm,-,hi⟩
   ·refine ⟨.seq (Ty.cells τ) [],?_,.empty (by simp [maxLen])⟩
    unfold Ty.has;exact ⟨[],rfl,by simp⟩
   have hlm : len ≤ m := by rw [hmm];split <;> omega
   have key : ∀ q,q ≤ len → ∃ ds l,ds.length = q ∧ (∀ x ∈ ds,Ty.has τ x) ∧ RepZ (allH W) (Ty.cells τ) ds l ∧ l.length = q * Ty.cells τ ∧ ∀ (j : Nat) u,l[j]? = some u → W.cell? (a.add j) = some u := by
    intro q
    induction q with
    | zero => intro _;exact ⟨[],[],rfl,by simp,RepZ.nil,by simp,by simp⟩
    | succ q ih =>
     intro hq
     obtain ⟨ds,l,h1,h2,h3,h4,h5⟩ := ih (by omega)
     obtain ⟨cs',hc,ht⟩ := hi q (by omega)
     rw [hz] at hc
     obtain ⟨_,hcl,hat⟩ := World.cells?_some hc
     obtain ⟨d,hd,hr⟩ := Ty.opens W τ e n cs' _ ha ho ht
     refine ⟨ds ++ [d],l ++ cs',by simp [h1],?_,h3.snoc hr hcl,by rw [List.length_append,h4,hcl,Nat.succ_mul],?_⟩
     ·intro x hx
      rcases List.mem_append.1 hx with hx | hx
      ·exact h2 x hx
      ·rw [List.mem_singleton.1 hx];exact hd
     ·intro j u hj
      by_cases hjl : j < l.length
      ·rw [List.getElem?_append_left hjl] at hj;exact h5 j u hj
      ·rw [List.getElem?_append_right (by omega)] at hj
       have hjc := (List.getElem?_eq_some_iff.1 hj).1
       have := hat (j - l.length) (by omega)
       rw [hj] at this
       have h9 : q * Ty.cells τ + (j - l.length) = j := by omega
       have h10 : (a.add (q * Ty.cells τ)).add (j - l.length) = a.add j := by rw [add_add,h9]
       rw [← h10]
       exact this
   obtain ⟨ds,l,h1,h2,h3,h4,h5⟩ := key len (Nat.le_refl _)
   refine ⟨.seq (Ty.cells τ) ds,?_,?_⟩
   ·unfold Ty.has;exact ⟨ds,rfl,h2⟩
   by_cases hl0 : len = 0
   ·subst hl0
    obtain rfl := List.eq_nil_of_length_eq_zero h1
    exact .empty hm
   ·have hlp : 0 < l.length := by rw [h4];exact Nat.mul_pos (by omega) h0
    have hc0 := h5 0 _ (List.getElem?_eq_getElem hlp)
    rw [show a.add 0 = a by simp [Addr.add]] at hc0
    obtain ⟨arr,t',mk,hb,hs,_⟩ := cell_block hc0
    obtain ⟨ab,ao,ap⟩ := a
    simp only at hs hb
    subst hs
    refine .mk ⟨arr,t',mk,hb,fun j u hu => ?_⟩ h3 h1 hl hm
    have h6 := h5 j u hu
    rw [Addr.add_lit] at h6
    obtain ⟨arr',t'',mk',hb',_,h7⟩ := cell_block h6
    have e2 := Option.some.inj (hb.symm.trans hb')
    injection e2 with e3
    subst e3
    exact h7
  ·cases ha
theorem Ty.opensL (W : World) : ∀ (fs : List Ty) (g : List Field) (o n : Nat) (cs : List Value),Ty.atL P fs g o = true → Ty.opnL fs = true → cs.length = o + Ty.cellsL fs →
 (∀ (i : Nat) f,g[i]? = some f → ∃ y,DataW.trod enc P W base sp held n f.type ((cs.drop f.offset).take (P.cellsOf f.type)) = some y) → ∃ ds,Ty.hasL fs ds ∧ RepL (allH W) ds (cs.drop o)
 | [],[],o,n,cs,_,_,hl,_ => by
  refine ⟨[],by unfold Ty.hasL;rfl,?_⟩
  unfold RepL
  exact List.drop_of_length_le (by simp only [Ty.cellsL] at hl;omega)
 | [],_ :: _,_,_,_,ha,_,_,_ => by simp [Ty.atL] at ha
 | _ :: _,[],_,_,_,ha,_,_,_ => by simp [Ty.atL] at ha
 | τ :: r,f :: g,o,n,cs,ha,ho,hl,hf => by
  unfold Ty.atL at ha
  unfold Ty.opnL at ho
  simp only [Bool.and_eq_true,decide_eq_true_eq] at ha ho
  obtain ⟨⟨⟨a1,a2⟩,a3⟩,a4⟩ := ha
  obtain ⟨y,hy⟩ := hf 0 f rfl
  rw [a2,a3] at hy
  obtain ⟨d,h1,h2⟩ := Ty.opens W τ f.type n _ y a1 ho.1 hy
  unfold Ty.cellsL at hl
  obtain ⟨ds,h3,h4⟩ := Ty.opensL W r g (o + Ty.cells τ) n cs a4 ho.2 (by omega) (fun i f' hi => hf (i + 1) f' (by simpa using hi))
  refine ⟨d :: ds,by unfold Ty.hasL;exact ⟨d,ds,rfl,h1,h3⟩,?_⟩
  unfold RepL
  exact ⟨_,_,by rw [← List.drop_drop,List.take_append_drop],h2,h4⟩
end
mutual
def flatD : DataW H → List Value
 | .lit (.int k n) => [.int k n]
 | .lit (.bool b) => [.bool b]
 | .lit (.string l) => [.string ⟨l.toArray⟩]
 | .agg ps => flatDs ps
 | _ => []
def flatDs : List (DataW H) → List Value
 | [] => []
 | d :: r => flatD d ++ flatDs r
end
mutual
theorem Ty.flat (W : World) : ∀ (τ : Ty) (t : TypeId) (fuel : Nat) (cs : List Value) (x : DataW H × List MemPlace),Ty.at P τ t = true → Ty.pln τ = true → DataW.trod enc P W base sp held fuel t cs = some x → cs = flatD x.1
 | .int k,t,fuel,cs,x,ha,_,h => by
  unfold Ty.at at ha
  split at ha
  ·rename_i k' hu
   obtain ⟨n,rfl,rfl,hw⟩ := DataW.trod_int hu h
   simp only [flatD]
  ·cases ha
 | .bool,t,fuel,cs,x,ha,_,h => by
  unfold Ty.at at ha
  split at ha
  ·rename_i hu
   obtain ⟨b,rfl,rfl⟩ := DataW.trod_bool hu h
   simp only [flatD]
  ·cases ha
 | .strg,t,fuel,cs,x,ha,_,h => by
  unfold Ty.at at ha
  split at ha
  ·rename_i hu
   obtain ⟨s,rfl,rfl,_⟩ := DataW.trod_string hu h
   simp only [flatD]
  ·cases ha
 | .seq _,_,_,_,_,_,ho,_ => by simp [Ty.pln] at ho
 | .str fs,t,fuel,cs,x,ha,ho,h => by
  unfold Ty.at at ha
  split at ha
  ·rename_i g hu
   simp only [Bool.and_eq_true,decide_eq_true_eq] at ha
   unfold Ty.pln at ho
   obtain ⟨xs,n,_,rfl,hl,hlen,hf⟩ := DataW.trod_struct hu h
   have h2 := Ty.flatL W fs g.toList 0 n cs xs ha.2 ho (by rw [hl,ha.1];omega) (by simpa using hlen) (fun i f hi => hf i f (by simpa using hi))
   simpa [flatD] using h2
  ·cases ha
 | .arr k τ,t,fuel,cs,x,ha,ho,h => by
  unfold Ty.at at ha
  split at ha
  ·rename_i m e hu
   simp only [Bool.and_eq_true,decide_eq_true_eq] at ha
   obtain ⟨⟨⟨hm,ha⟩,hz⟩,hct⟩ := ha
   subst hm
   unfold Ty.pln at ho
   obtain ⟨xs,n,_,rfl,hl,hlen,hf⟩ := DataW.trod_array hu h
   have key : ∀ (xs : List (DataW H × List MemPlace)) (cs : List Value),cs.length = xs.length * Ty.cells τ → (∀ i,i < xs.length → DataW.trod enc P W base sp held n e ((cs.drop (i * Ty.cells τ)).take (Ty.cells τ)) = xs[i]?) → cs = flatDs (xs.map (·.1)) := by
    intro xs
    induction xs with
    | nil => intro cs hc _;simp at hc;simp [hc,flatDs]
    | cons y r ih =>
     intro cs hc hi
     have h0 := hi 0 (by simp)
     simp only [Nat.zero_mul,List.drop_zero,List.getElem?_cons_zero] at h0
     have e0 := Ty.flat W τ e n _ y ha ho h0
     have e1 := ih (cs.drop (Ty.cells τ)) (by rw [List.length_drop,hc,List.length_cons,Nat.succ_mul];omega) (fun i hlt => by
      have := hi (i + 1) (by simp;omega)
      rw [List.getElem?_cons_succ] at this
      rw [← this,List.drop_drop,show Ty.cells τ + i * Ty.cells τ = (i + 1) * Ty.cells τ by rw [Nat.succ_mul];omega])
     simp only [List.map_cons,flatDs]
     rw [← e0,← e1,List.take_append_drop]
   have h2 := key xs cs (by rw [hl,hct,hlen]) (fun i hlt => by
    have := hf i (by omega)
    rw [hz] at this
    exact this)
   simpa [flatD] using h2
  ·cases ha
theorem Ty.flatL (W : World) : ∀ (fs : List Ty) (g : List Field) (o n : Nat) (cs : List Value) (xs : List (DataW H × List MemPlace)),Ty.atL P fs g o = true → Ty.plnL fs = true → cs.length = o + Ty.cellsL fs → xs.length = g.length →
 (∀ (i : Nat) f,g[i]? = some f → DataW.trod enc P W base sp held n f.type ((cs.drop f.offset).take (P.cellsOf f.type)) = xs[i]?) → cs.drop o = flatDs (xs.map (·.1))
 | [],[],o,n,cs,xs,_,_,hl,hx,_ => by
  obtain rfl := List.eq_nil_of_length_eq_zero hx
  simp only [List.map_nil,flatDs]
  exact List.drop_of_length_le (by simp only [Ty.cellsL] at hl;omega)
 | [],_ :: _,_,_,_,_,ha,_,_,_,_ => by simp [Ty.atL] at ha
 | _ :: _,[],_,_,_,_,ha,_,_,_,_ => by simp [Ty.atL] at ha
 | τ :: r,f :: g,o,n,cs,[],ha,ho,hl,hx,hf => by simp at hx
 | τ :: r,f :: g,o,n,cs,y :: xs,ha,ho,hl,hx,hf => by
  unfold Ty.atL at ha
  unfold Ty.plnL at ho
  simp only [Bool.and_eq_true,decide_eq_true_eq] at ha ho
  obtain ⟨⟨⟨a1,a2⟩,a3⟩,a4⟩ := ha
  have hy := hf 0 f rfl
  rw [a2,a3,List.getElem?_cons_zero] at hy
  have e0 := Ty.flat W τ f.type n _ y a1 ho.1 hy
  unfold Ty.cellsL at hl
  have e1 := Ty.flatL W r g (o + Ty.cells τ) n cs xs a4 ho.2 (by omega) (by simpa using hx) (fun i f' hi => by
   have := hf (i + 1) f' (by simpa using hi)
   rw [List.getElem?_cons_succ] at this
   exact this)
  simp only [List.map_cons,flatDs]
  rw [← e0,← e1,← List.drop_drop,List.take_append_drop]
end
end
theorem laid_mem {P : Program} {W : World} {name : String} {dat : DataW Unit} {rest : List (String × DataW Unit)} {g : Nat} {t : TypeId} (τ : Ty) (cs : List Value)
 (hg : P.globalNamed name = some g) (hty : (P.globals[g]?).map (·.type) = some t) (ha : Ty.at P τ t = true) (hp : Ty.pln τ = true) (hc : flatD dat = cs) (h : laidMet P ((name,dat) :: rest) W) : MemAt (allH W) g 0 cs := by
 obtain ⟨ps,⟨g',t',cs',fuel,p,q,hg',ht',hvar,hd,_,_⟩,_⟩ := h
 obtain rfl := Option.some.inj (hg.symm.trans hg')
 obtain rfl := Option.some.inj (hty.symm.trans ht')
 have e := Ty.flat W τ t fuel cs'.toList _ ha hp hd
 dsimp only at e
 rw [hc] at e
 unfold World.var? at hvar
 rw [hg] at hvar
 simp only [Option.bind_some] at hvar
 split at hvar
 ·rename_i arr T m hb
  refine ⟨arr,T,m,hb,fun j u hu => ?_⟩
  obtain rfl := Option.some.inj hvar
  rw [Nat.zero_add]
  rw [← e] at hu
  simpa using hu
 ·cases hvar
theorem list_of {α β : Type} {f : α → β} : ∀ {ds : List β},(∀ x ∈ ds,∃ y,x = f y) → ∃ l : List α,ds = l.map f
 | [],_ => ⟨[],rfl⟩
 | d :: r,h => by
  obtain ⟨y,rfl⟩ := h d (.head _)
  obtain ⟨l,rfl⟩ := list_of (ds := r) fun x hx => h x (.tail _ hx)
  exact ⟨y :: l,rfl⟩
theorem has_u8 {n : Int} (h : (Lit.int .u8 n).wf = true) : ∃ x : UInt8,n = x.toNat := by
 have e1 : IntKind.u8.min = 0 := rfl
 have e2 : IntKind.u8.max = 255 := rfl
 simp only [Lit.wf,e1,e2,Bool.and_eq_true,decide_eq_true_eq] at h
 exact ⟨UInt8.ofNat n.toNat,by simp [UInt8.toNat_ofNat'];omega⟩
theorem has_i64 {n : Int} (h : (Lit.int .i64 n).wf = true) : ∃ x : Int64,n = x.toInt := by
 have e1 : IntKind.i64.min = -9223372036854775808 := rfl
 have e2 : IntKind.i64.max = 9223372036854775807 := rfl
 simp only [Lit.wf,e1,e2,Bool.and_eq_true,decide_eq_true_eq] at h
 exact ⟨Int64.ofInt n,(Int64.toInt_ofInt_of_le (by simpa using h.1) (by have := h.2;omega)).symm⟩
inductive Pi0 where
 | done
 | no
 | light (i : Nat) (r : Pi0)
 | alt (i k : Nat) (r q : Pi0)
inductive PlT where
 | done
 | no
 | light (i : Nat) (o : Oper) (r : PlT)
 | alt (i k : Nat) (o : Oper) (r q : PlT)
def fillT (l : List Oper) : Pi0 → PlT
 | .done => .done
 | .no => .no
 | .light i r => .light i l[i]! (fillT l r)
 | .alt i k r q => .alt i k l[i]! (fillT l r) (fillT l q)
def okT (ops : Array Oper) (n : Nat) : List Nat → List Nat → Pi0 → Bool
 | D,A,.done => A.isEmpty && (List.range n).all fun j => D.contains j
 | D,A,.no => !A.isEmpty && (List.range n).all fun j => D.contains j || A.contains j || A.any fun i => reach ops n j i
 | D,A,.light i r => A.isEmpty && decide (i < n) && !D.contains i && ((List.range n).all fun j => !Region.waitsFor .any ops i j || D.contains j) && okT ops n (i :: D) [] r
 | D,A,.alt i k r q => decide (i < n) && !D.contains i && ((List.range n).all fun j => !Region.waitsFor .any ops i j || D.contains j) && (!(k == 1) || D.all fun j => reach ops n i j) && okT ops n (i :: D) [] r && okT ops n D (i :: A) q
section
variable {P : Program} {ops : Array Oper} {w0 : World} {n N : Nat}
def FlowT (P : Program) (ops : Array Oper) (n : Nat) (w0 : World) (N : Nat) (E : Sl → Hp → List Res → Prop) : PlT → List (Nat × Oper × Value) → Sl → Hp → List Res → Prop
 | .done,_,L,H,bs => E L H bs
 | .no,_,_,_,_ => True
 | .light i o r,pa,L,H,bs => ∃ v,(∀ a W,Fr N L a → St H w0 bs W → Yq P ops o v a W) ∧ (∀ t,o.dst = some t → t < N) ∧ FlowT P ops n w0 N E r ((i,o,v) :: pa) (putL o.dst v L) H bs
 | .alt i k o r q,pa,L,H,bs => ((∀ t,o.dst = some t → t < N) ∧ At N L H w0 bs (one P ops (fun _ _ _ => False) o fun a' W' => ∃ v H' bs',Fr N (putL o.dst v L) a' ∧ St H' w0 bs' W' ∧ (k = 1 ∨ (∀ W,St H' w0 bs' W → St H w0 bs W) ∨ RedoP P ops n w0 N L H' bs' i pa) ∧ FlowT P ops n w0 N E r pa (putL o.dst v L) H' bs')) ∧ FlowT P ops n w0 N E q pa L H bs
structure GT (P : Program) (ops : Array Oper) (l : List Oper) (w0 : World) (n N : Nat) (a0 : Act) (E : Sl → Hp → List Res → Prop) (listed : Array Bool) (a : Act) (W : World) (val : Nat → Value) (dec : Nat → Bool) (D : List Nat) (L : Sl) (H : Hp) (bs : List Res) (pa : List (Nat × Oper × Value)) : Prop where
 head : HeadInv .any ops n listed
 frame : a = frm ops val (st listed) n a0
 full : Fr N L (frm ops val dec n a0)
 sub : ∀ i,i < n → st listed i = true → dec i = true
 world : St H w0 bs W
 light : ∀ i o,i < n → ops[i]? = some o → dec i = true → st listed i = false → ∀ W,St H w0 bs W → Yq P ops o (val i) (frm ops val dec n a0) W
 past : ∀ i o,i < n → ops[i]? = some o → dec i = true → st listed i = false → (i,o,val i) ∈ pa
 set : ∀ j,dec j = D.contains j
 deps : ∀ i j,i < n → j < n → dec i = true → Region.waitsFor .any ops i j = true → dec j = true
variable {l : List Oper} {a0 : Act} {E : Sl → Hp → List Res → Prop} {Q : Exit → Act → World → Prop} {listed : Array Bool} {a : Act} {W : World} {val : Nat → Value} {dec : Nat → Bool} {D A : List Nat} {L : Sl} {H : Hp} {bs : List Res} {pa : List (Nat × Oper × Value)}
theorem upd_set {i : Nat} (h : ∀ j,dec j = D.contains j) : ∀ j,upd dec i true j = (i :: D).contains j := fun j => by
 by_cases e : j = i
 ·subst e;rw [upd_same];simp
 ·rw [upd_ne _ _ e,h j,List.contains_cons]
  have : (j == i) = false := by simpa using e
  rw [this];simp
theorem waits_ok {i : Nat} (h : ((List.range n).all fun j => !Region.waitsFor .any ops i j || D.contains j) = true) {j : Nat} (hj : j < n) (hw : Region.waitsFor .any ops i j = true) : D.contains j = true := by
 have := List.all_eq_true.1 h j (List.mem_range.2 hj)
 rw [hw] at this
 simpa using this
theorem GT.decide (F : Fit ops n []) {i : Nat} {o : Oper} (I : GT P ops l w0 n N a0 E listed a W val dec D L H bs pa) (hi : i < n) (ho : ops[i]? = some o) (hiD : D.contains i = false) (hwt : ((List.range n).all fun j => !Region.waitsFor .any ops i j || D.contains j) = true)
 {v : Value} (hy : ∀ a W,Fr N L a → St H w0 bs W → Yq P ops o v a W) (hN : ∀ t,o.dst = some t → t < N) :
 GT P ops l w0 n N a0 E listed a W (upd val i v) (upd dec i true) (i :: D) (putL o.dst v L) H bs ((i,o,v) :: pa) := by
 have hdi : dec i = false := (I.set i).trans hiD
 have hdeps : ∀ j,j < n → Region.waitsFor .any ops i j = true → dec j = true := fun j hj hw => (I.set j).trans (waits_ok hwt hj hw)
 have hii : ∀ j,j < n → Region.waitsFor .any ops i j = true → j ≠ i := fun j hj hw e => by
  have := hdeps j hj hw
  rw [e,hdi] at this;cases this
 have hli : st listed i = false := by
  cases h : st listed i with
  | false => rfl
  | true => have := I.sub i hi h;rw [hdi] at this;cases this
 have hput := frm_put (a0 := a0) (val := val) (v := v) F hi ho hdi
 refine ⟨I.head,?_,?_,?_,I.world,?_,?_,upd_set I.set,?_⟩
 ·rw [I.frame]
  refine frm_congr _ _ _ _ a0 n fun k _ => ⟨rfl,fun hk => (upd_ne _ _ fun e => ?_).symm⟩
  subst e;rw [hli] at hk;cases hk
 ·rw [hput];exact I.full.putL v hN
 ·intro j hj hs
  by_cases e : j = i
  ·subst e;exact upd_same _ _ _
  ·rw [upd_ne _ _ e];exact I.sub j hj hs
 ·intro j oj hj hoj hd hs W hW
  by_cases e : j = i
  ·subst e
   obtain rfl : oj = o := Option.some.inj (hoj.symm.trans ho)
   rw [upd_same]
   refine Yq.same (fun cs b => F.sel j oj cs b ho) (fun t ht => ?_) (hy _ W I.full hW)
   refine eval_same F hj ho (fun k hk hw => ?_) t ht
   have hkd := hdeps k hk hw
   have hki := hii k hk hw
   exact ⟨by rw [upd_ne _ _ hki];exact hkd,hkd,upd_ne _ _ hki⟩
  ·rw [upd_ne _ _ e] at hd ⊢
   refine Yq.same (fun cs b => F.sel j oj cs b hoj) (fun t ht => ?_) (I.light j oj hj hoj hd hs W hW)
   refine eval_same F hj hoj (fun k hk hw => ?_) t ht
   have hkd := I.deps j k hj hk hd hw
   have hki : k ≠ i := fun e => by subst e;rw [hdi] at hkd;cases hkd
   exact ⟨by rw [upd_ne _ _ hki];exact hkd,hkd,upd_ne _ _ hki⟩
 ·intro j oj hj hoj hd hs
  by_cases e : j = i
  ·subst e
   obtain rfl : oj = o := Option.some.inj (hoj.symm.trans ho)
   rw [upd_same];exact .head _
  ·rw [upd_ne _ _ e] at hd ⊢
   exact .tail _ (I.past j oj hj hoj hd hs)
 ·intro j k hj hk hd hw
  by_cases e : j = i
  ·subst e
   rw [upd_ne _ _ (hii k hk hw)];exact hdeps k hk hw
  ·rw [upd_ne _ _ e] at hd
   have := I.deps j k hj hk hd hw
   by_cases e2 : k = i
   ·subst e2;exact upd_same _ _ _
   ·rw [upd_ne _ _ e2];exact this
theorem GT.step (F : Fit ops n []) {i : Nat} {o : Oper} {W' : World} (I : GT P ops l w0 n N a0 E listed a W val dec D L H bs pa) (hi : i < n) (ho : ops[i]? = some o) (hr : i ∈ Region.ready .any ops listed) (hd : dec i = true) (hx : Ext W W') :
 GT P ops l w0 n N a0 E (listed.setIfInBounds i true) (a.put o.dst (val i)) W' val dec D L H bs pa := by
 have hun : st listed i = false := (mem_ready.1 hr).1
 have e1 : dstOf ops i = o.dst := by simp [dstOf,ho]
 refine ⟨I.head.set hr hi,?_,I.full,?_,I.world.more hx,?_,?_,I.set,I.deps⟩
 ·rw [I.frame,frm_more val (st listed) (st (listed.setIfInBounds i true)) a0 i st_set_same hun (fun k hk => st_set hk) n hi F.apart,e1]
 ·intro j hj hs
  by_cases e : j = i
  ·subst e;exact hd
  ·rw [st_set e] at hs;exact I.sub j hj hs
 ·intro j oj hj hoj hdj hs
  have e : j ≠ i := fun e => by subst e;rw [st_set_same] at hs;cases hs
  rw [st_set e] at hs
  exact I.light j oj hj hoj hdj hs
 ·intro j oj hj hoj hdj hs
  have e : j ≠ i := fun e => by subst e;rw [st_set_same] at hs;cases hs
  rw [st_set e] at hs
  exact I.past j oj hj hoj hdj hs
theorem GT.heavy (F : Fit ops n []) {i k : Nat} {o : Oper} {v : Value} {W' : World} {H' : Hp} {bs' : List Res} (I : GT P ops l w0 n N a0 E listed a W val dec D L H bs pa) (hi : i < n) (ho : ops[i]? = some o) (hiD : D.contains i = false) (hwt : ((List.range n).all fun j => !Region.waitsFor .any ops i j || D.contains j) = true) (hk1 : (!(k == 1) || D.all fun j => reach ops n i j) = true) (hN : ∀ t,o.dst = some t → t < N) (hr : i ∈ Region.ready .any ops listed)
 (hs : St H' w0 bs' W') (hws : k = 1 ∨ (∀ W,St H' w0 bs' W → St H w0 bs W) ∨ RedoP P ops n w0 N L H' bs' i pa) :
 GT P ops l w0 n N a0 E (listed.setIfInBounds i true) (a.put o.dst v) W' (upd val i v) (upd dec i true) (i :: D) (putL o.dst v L) H' bs' pa := by
 have hdi : dec i = false := (I.set i).trans hiD
 have hdeps : ∀ j,j < n → Region.waitsFor .any ops i j = true → dec j = true := fun j hj hw => (I.set j).trans (waits_ok hwt hj hw)
 have hii : ∀ j,j < n → Region.waitsFor .any ops i j = true → j ≠ i := fun j hj hw e => by
  have := hdeps j hj hw
  rw [e,hdi] at this;cases this
 have hun : st listed i = false := (mem_ready.1 hr).1
 have e1 : dstOf ops i = o.dst := by simp [dstOf,ho]
 have hput := frm_put (a0 := a0) (val := val) (v := v) F hi ho hdi
 refine ⟨I.head.set hr hi,?_,?_,?_,hs,?_,?_,upd_set I.set,?_⟩
 ·rw [I.frame,frm_more (upd val i v) (st listed) (st (listed.setIfInBounds i true)) a0 i st_set_same hun (fun k hk => st_set hk) n hi F.apart,e1,upd_same]
  congr 1
  refine frm_congr _ _ _ _ a0 n fun k _ => ⟨rfl,fun hk => (upd_ne _ _ fun e => ?_).symm⟩
  subst e;rw [hun] at hk;cases hk
 ·rw [hput];exact I.full.putL v hN
 ·intro j hj hs
  by_cases e : j = i
  ·subst e;exact upd_same _ _ _
  ·rw [upd_ne _ _ e];rw [st_set e] at hs;exact I.sub j hj hs
 ·intro j oj hj hoj hd hs W hW
  have e : j ≠ i := fun e => by subst e;rw [st_set_same] at hs;cases hs
  rw [st_set e] at hs
  rw [upd_ne _ _ e] at hd ⊢
  have hdone : reach ops n i j = true → False := fun h1 => by
   obtain ⟨_,oi,hoi,hall⟩ := mem_ready.1 hr
   have h2 := reach_listed I.head n i j h1 (fun ok hok x hx hb => by
    obtain rfl : ok = oi := Option.some.inj (hok.symm.trans hoi)
    exact hall x hx hb)
   rw [getD_both hs] at h2
   cases h2
  have hy : Yq P ops oj (val j) (frm ops val dec n a0) W := by
   rcases hws with hk | hw | hw
   ·subst hk
    have hjD : j ∈ D := by have := (I.set j).symm.trans hd;simpa using this
    simp only [beq_self_eq_true,Bool.not_true,Bool.false_or] at hk1
    exact (hdone (List.all_eq_true.1 hk1 j hjD)).elim
   ·exact I.light j oj hj hoj hd hs W (hw W hW)
   ·rcases hw.at (I.past j oj hj hoj hd hs) with h1 | h1
    ·exact (hdone h1).elim
    ·exact h1 _ W I.full hW
  refine Yq.same (fun cs b => F.sel j oj cs b hoj) (fun t ht => ?_) hy
  refine eval_same F hj hoj (fun k hk hw => ?_) t ht
  have hkd := I.deps j k hj hk hd hw
  have hki : k ≠ i := fun e => by subst e;rw [hdi] at hkd;cases hkd
  exact ⟨by rw [upd_ne _ _ hki];exact hkd,hkd,upd_ne _ _ hki⟩
 ·intro j oj hj hoj hd hs
  have e : j ≠ i := fun e => by subst e;rw [st_set_same] at hs;cases hs
  rw [st_set e] at hs
  rw [upd_ne _ _ e] at hd ⊢
  exact I.past j oj hj hoj hd hs
 ·intro j k hj hk hd hw
  by_cases e : j = i
  ·subst e
   rw [upd_ne _ _ (hii k hk hw)];exact hdeps k hk hw
  ·rw [upd_ne _ _ e] at hd
   have := I.deps j k hj hk hd hw
   by_cases e2 : k = i
   ·subst e2;exact upd_same _ _ _
   ·rw [upd_ne _ _ e2];exact this
theorem chain_find (hl : ops = l.toArray) {j : Nat} (hj : j < n) (hjD : D.contains j = false) (hnr : ∀ i,D.contains i = false → i < n → reach ops n j i = false) :
 ∀ (q : Pi0) (A : List Nat),(q = .no ∨ ∃ i k r q',q = .alt i k r q') → okT ops n D A q = true → (∀ i ∈ A,D.contains i = false ∧ i < n ∧ i ≠ j) → FlowT P ops n w0 N E (fillT l q) pa L H bs →
  ∃ k r,((List.range n).all fun x => !Region.waitsFor .any ops j x || D.contains x) = true ∧ (!(k == 1) || D.all fun x => reach ops n j x) = true ∧ okT ops n (j :: D) [] r = true ∧ (∀ t,(l[j]!).dst = some t → t < N) ∧
   At N L H w0 bs (one P ops (fun _ _ _ => False) l[j]! fun a' W' => ∃ v H' bs',Fr N (putL (l[j]!).dst v L) a' ∧ St H' w0 bs' W' ∧ (k = 1 ∨ (∀ W,St H' w0 bs' W → St H w0 bs W) ∨ RedoP P ops n w0 N L H' bs' j pa) ∧ FlowT P ops n w0 N E (fillT l r) pa (putL (l[j]!).dst v L) H' bs') := by
 intro q
 induction q with
 | done => rintro A (h | ⟨_,_,_,_,h⟩) <;> cases h
 | light i r => rintro A (h | ⟨_,_,_,_,h⟩) <;> cases h
 | no =>
  intro A _ hok hA _
  exfalso
  simp only [okT,Bool.and_eq_true] at hok
  have := List.all_eq_true.1 hok.2 j (List.mem_range.2 hj)
  simp only [Bool.or_eq_true] at this
  rcases this with (h | h) | h
  ·rw [hjD] at h;cases h
  ·exact (hA j (by simpa using h)).2.2 rfl
  ·obtain ⟨i,hi,hre⟩ := List.any_eq_true.1 h
   rw [hnr i (hA i hi).1 (hA i hi).2.1] at hre;cases hre
 | alt i k r q' ihr ihq =>
  intro A _ hok hA hF
  simp only [okT,Bool.and_eq_true,decide_eq_true_eq,Bool.not_eq_true'] at hok
  obtain ⟨⟨⟨⟨⟨h1,h2⟩,h3⟩,h4⟩,h5⟩,h6⟩ := hok
  unfold fillT FlowT at hF
  by_cases e : i = j
  ·subst e
   exact ⟨k,r,h3,h4,h5,hF.1.1,hF.1.2⟩
  ·have hq : q' = .no ∨ ∃ i k r q'',q' = .alt i k r q'' := by
    cases q' with
    | done => simp [okT] at h6
    | light i r => simp [okT] at h6
    | no => exact .inl rfl
    | alt i k r q => exact .inr ⟨_,_,_,_,rfl⟩
   refine ihq (i :: A) hq h6 (fun x hx => ?_) hF.2
   rcases List.mem_cons.1 hx with rfl | hx
   ·exact ⟨h2,h1,e⟩
   ·exact hA x hx
theorem flowT_game (hl : ops = l.toArray) (F : Fit ops n []) (hend : ∀ L H bs,E L H bs → At N L H w0 bs (wpList P ops Q (ops.toList.drop n))) :
 ∀ (m : Nat) (p : Pi0) (listed : Array Bool) (a : Act) (W : World) (val : Nat → Value) (dec : Nat → Bool) (D : List Nat) (L : Sl) (H : Hp) (bs : List Res) (pa : List (Nat × Oper × Value)),cnt (st listed) n = m → okT ops n D [] p = true →
  FlowT P ops n w0 N E (fillT l p) pa L H bs → GT P ops l w0 n N a0 E listed a W val dec D L H bs pa → wpAny P .any ops Q (m + (ops.size - n)) listed a W := by
 have hop : ∀ i,i < n → ops[i]? = some l[i]! := fun i hi => by
  have h1 : i < ops.size := by have := F.lt;omega
  subst hl
  have h2 : i < l.length := by simpa using h1
  simp [h2]
 intro m
 induction m with
 | zero =>
  intro p
  induction p with
  | done =>
   intro listed a W val dec D L H bs pa hm hok hF I
   have hall := cnt_zero _ n hm
   have hcan : listed = ((List.range ops.size).map fun k => Decidable.decide (k < n)).toArray := by
    apply Array.ext
    ·simp [I.head.size]
    ·intro k h1 h2
     have hk : k < ops.size := by rw [← I.head.size];exact h1
     simp only [List.getElem_toArray,List.getElem_map,List.getElem_range]
     by_cases hkn : k < n
     ·have := hall k hkn
      simp [st,h1] at this
      simp [this,hkn]
     ·have := I.head.tail k (by omega) hk
      simp [h1] at this
      simp [this,hkn]
   rw [Nat.zero_add]
   have hlen : (ops.toList.drop n).length = ops.size - n := by simp
   rw [← hlen]
   refine wpAny_of_seq (ops.toList.drop n) n listed a W (fun j => by simp [List.getElem?_drop]) (by rw [hlen,hcan];exact F.seq) ?_
   have hfr : a = frm ops val dec n a0 := by
    rw [I.frame]
    exact frm_congr _ _ _ _ a0 n (fun k hk => ⟨by rw [hall k hk,I.sub k hk (hall k hk)],fun _ => rfl⟩)
   rw [hfr]
   exact hend L H bs hF _ W I.full I.world
  | no =>
   intro listed a W val dec D L H bs pa hm hok hF I
   simp [okT] at hok
  | light i r ih =>
   intro listed a W val dec D L H bs pa hm hok hF I
   have hall := cnt_zero _ n hm
   simp only [okT,Bool.and_eq_true,decide_eq_true_eq,Bool.not_eq_true'] at hok
   have := I.sub i hok.1.1.1.2 (hall i hok.1.1.1.2)
   rw [I.set i,hok.1.1.2] at this;cases this
  | alt i k r q ih1 ih2 =>
   intro listed a W val dec D L H bs pa hm hok hF I
   have hall := cnt_zero _ n hm
   simp only [okT,Bool.and_eq_true,decide_eq_true_eq,Bool.not_eq_true'] at hok
   have := I.sub i hok.1.1.1.1.1 (hall i hok.1.1.1.1.1)
   rw [I.set i,hok.1.1.1.1.2] at this;cases this
 | succ m ih =>
  have one_step : ∀ (p : Pi0) (listed : Array Bool) (a : Act) (W : World) (val : Nat → Value) (dec : Nat → Bool) (D : List Nat) (L : Sl) (H : Hp) (bs : List Res) (pa : List (Nat × Oper × Value)),cnt (st listed) n = m + 1 → okT ops n D [] p = true →
   FlowT P ops n w0 N E (fillT l p) pa L H bs → GT P ops l w0 n N a0 E listed a W val dec D L H bs pa → (p = .done ∨ p = .no ∨ ∃ i k r q,p = .alt i k r q) → wpAny P .any ops Q (m + 1 + (ops.size - n)) listed a W := by
   intro p listed a W val dec D L H bs pa hm hok hF I hp
   obtain ⟨k0,hk0,hun0,hbelow⟩ := cnt_pos (st listed) n (by omega)
   have hk0s : k0 < ops.size := by have := F.lt;omega
   have hready0 : k0 ∈ Region.ready .any ops listed := by
    refine mem_ready.2 ⟨hun0,ops[k0],Array.getElem?_eq_getElem hk0s,fun e he hb => ?_⟩
    have hlt := F.back k0 _ (Array.getElem?_eq_getElem hk0s) e he hb
    have := hbelow e.on hlt
    have hsz : e.on < listed.size := by rw [I.head.size];omega
    simpa [st,hsz] using this
   rw [show m + 1 + (ops.size - n) = (m + (ops.size - n)) + 1 by omega]
   refine ⟨fun h0 => (by rw [h0] at hready0;cases hready0),fun j hj => ?_⟩
   have hjn : j < n := by
    rcases Nat.lt_or_ge j n with h | h
    ·exact h
    ·exact absurd hj (tail_waitsF F.sink F.chain I.head _ k0 rfl hk0 rfl hun0 j h)
   obtain ⟨hun,oj,hoj,hall⟩ := mem_ready.1 hj
   have hcnt : cnt (st (listed.setIfInBounds j true)) n = m := by
    have := cnt_more (st listed) (st (listed.setIfInBounds j true)) j st_set_same hun (fun k hk => st_set hk) n hjn
    omega
   have hS : ∀ k,k < n → Region.waitsFor .any ops j k = true → st listed k = true := by
    intro k hk hw
    obtain ⟨oi,hoi,e,he,hb,hon⟩ := Region.waitsFor_spec hw
    obtain rfl : oi = oj := Option.some.inj (hoi.symm.trans hoj)
    have h1 := hall e he hb
    rw [hon] at h1
    have hsz : k < listed.size := by rw [I.head.size];have := F.lt;omega
    simp [hsz] at h1
    simp [st,hsz,h1]
   have hev : ∀ t ∈ oj.looksAt ops,a.eval (.tmp t) = (frm ops val dec n a0).eval (.tmp t) := fun t ht => by
    rw [I.frame]
    exact eval_same F hjn hoj (fun k hk hw => ⟨hS k hk hw,I.sub k hk (hS k hk hw),rfl⟩) t ht
   cases hd : dec j with
   | true =>
    have hy : Yq P ops oj (val j) a W := Yq.same (fun cs b => F.sel j oj cs b hoj) hev (I.light j oj hjn hoj hd hun W I.world)
    exact hy.wpOp hoj fun W' hx => ih p _ _ _ _ _ _ _ _ _ _ hcnt hok hF (I.step F hjn hoj hj hd hx)
   | false =>
    have hjD : D.contains j = false := (I.set j).symm.trans hd
    have hch : p = .no ∨ ∃ i k r q',p = .alt i k r q' := by
     rcases hp with rfl | rfl | h
     ·exfalso
      simp only [okT,Bool.and_eq_true] at hok
      have := List.all_eq_true.1 hok.2 j (List.mem_range.2 hjn)
      rw [hjD] at this;cases this
     ·exact .inl Z
     ·exact .inr h
    obtain ⟨k,r,h1,h2,h3,h4,h5⟩ := chain_find hl hjn hjD (fun i hi hin => by
     cases hre : reach ops n j i with
     | false => rfl
     | true =>
      have h2 := reach_listed I.head n j i hre (fun ok hok e he hb => by
       obtain rfl : ok = oj := Option.some.inj (hok.symm.trans hoj)
       exact hall e he hb)
      have h3 : st listed i = false := by
       cases h : st listed i with
       | false => rfl
       | true => have := I.sub i hin h;rw [I.set i,hi] at this;cases this
      rw [getD_both h3] at h2;cases h2) p [] hch hok (fun i hi => by cases hi) hF
    have hoj2 := hop j hjn
    obtain rfl : oj = l[j]! := Option.some.inj (hoj.symm.trans hoj2)
    refine one_same hoj (fun cs b => F.sel j _ cs b hoj) hev (fun b W' ⟨v,H',bs',hf,_⟩ => hf.defers) ?_ (h5 _ W I.full I.world)
    rintro v W' ⟨v',H',bs',hf,hs,hw,hp'⟩
    have hvv : putL (l[j]!).dst v' L = putL (l[j]!).dst v L := by
     cases hdst : (l[j]!).dst with
     | none => rfl
     | some t =>
      rw [hdst] at hf
      have h1 := hf.slot t v' (by unfold putL look;rw [Nat.beq_refl,cond_true])
      have h2 : t < N := h4 t hdst
      have h3 := (I.full.put (by simpa [Nat.blt_eq] using h2) v).slot t v (by unfold look;rw [Nat.beq_refl,cond_true])
      rw [h3] at h1
      rw [h1]
    rw [hvv] at hp'
    exact ih r _ _ _ _ _ _ _ _ _ _ hcnt h3 hp' (I.heavy F hjn hoj hjD h1 h2 h4 hj hs hw)
  intro p
  induction p with
  | done => exact fun listed a W val dec D L H bs pa hm hok hF I => one_step _ listed a W val dec D L H bs pa hm hok hF I (.inl rfl)
  | no => exact fun listed a W val dec D L H bs pa hm hok hF I => one_step _ listed a W val dec D L H bs pa hm hok hF I (.inr (.inl rfl))
  | alt i k r q _ _ => exact fun listed a W val dec D L H bs pa hm hok hF I => one_step _ listed a W val dec D L H bs pa hm hok hF I (.inr (.inr ⟨_,_,_,_,rfl⟩))
  | light i r ihr =>
   intro listed a W val dec D L H bs pa hm hok hF I
   simp only [okT,Bool.and_eq_true,decide_eq_true_eq,Bool.not_eq_true'] at hok
   obtain ⟨⟨⟨⟨_,hi⟩,hiD⟩,hwt⟩,hok'⟩ := hok
   unfold fillT FlowT at hF
   obtain ⟨v,hy,hN,hF'⟩ := hF
   exact ihr listed a W _ _ _ _ H bs _ hm hok' hF' (I.decide F hi (hop i hi) hiD hwt hy hN)
theorem flowT {id : Nat} {l : List Oper} {p : PlT} {Q : Exit → Act → World → Prop} {L : Sl} {H : Hp} {bs : List Res} (n : Nat) (p0 : Pi0) (hm : P.follows .mixedOrders = true) (hB : (parB l.toArray n [] && okT l.toArray n [] [] p0) = true) (ht : fillT l p0 = p)
 (h : FlowT P l.toArray n w0 N (fun L H bs => At N L H w0 bs (wpList P l.toArray Q (l.drop n))) p [] L H bs) : At N L H w0 bs ((Code.region id l.toArray true).wp P Q) := by
 simp only [Bool.and_eq_true] at hB
 obtain ⟨h1,h2⟩ := hB
 have F := Fit.of h1
 have hlt : n < l.length := by simpa using F.lt
 subst ht
 intro a W f s
 refine wp_region_any hm ?_
 have hsz : l.toArray.size = l.length := by simp
 have hc0 : ∀ m,m ≤ n → cnt (st (Array.replicate l.toArray.size false)) m = m := by
  intro m
  induction m with
  | zero => intro _;rfl
  | succ m ih =>
   intro hm
   unfold cnt
   rw [ih (by omega)]
   have : st (Array.replicate l.toArray.size false) m = false := by
    have : m < l.length := by omega
    simp [st,this]
   rw [this];simp
 have hfrm : ∀ (val : Nat → Value) (m : Nat),frm l.toArray val (fun _ => false) m a = a := fun val m => by
  induction m with
  | zero => rfl
  | succ m ih => unfold frm;simp [ih]
 have hall : ∀ m,m ≤ n → ∀ k,k < m → st (Array.replicate l.toArray.size false) k = false := fun m hm k hk => by
  have : k < l.length := by omega
  simp [st,this]
 have hh : HeadInv .any l.toArray n (Array.replicate l.toArray.size false) := by
  refine ⟨by simp,fun j oj hj hl => ?_,fun t ht ht' => ?_⟩
  ·exfalso
   rcases Nat.lt_or_ge j l.length with h | h
   ·simp [h] at hl
   ·simp [h] at hl
  ·have : t < l.length := by simpa using ht'
   simp [this]
 have key := flowT_game (Q := Q) (a0 := a) (l := l) rfl F (fun L H bs h => by simpa using h) n p0 (Array.replicate l.toArray.size false) a _ (fun _ => undef) (fun _ => false) [] L H bs [] (hc0 n (Nat.le_refl _)) h2 h
  ⟨hh,?_,by rw [hfrm];exact f,?_,s.more ((Ext.refl W).drew),fun _ _ _ _ h => (by cases h),fun _ _ _ _ h => (by cases h),fun _ => rfl,fun _ _ _ _ h => (by cases h)⟩
 ·have : n + (l.toArray.size - n) = l.toArray.size := by rw [hsz];omega
  rw [this] at key
  exact key
 ·rw [frm_congr (fun _ => undef) (fun _ => undef) _ (fun _ => false) a n (fun k hk => ⟨hall n (Nat.le_refl _) k hk,fun _ => rfl⟩),hfrm]
 ·intro i hi hs;rw [hall n (Nat.le_refl _) i hi] at hs;cases hs
end
section
variable {P : Program} {n : Nat} {L : Sl} {H : Hp} {w0 : World} {bs : List Res} {Q : Exit → Act → World → Prop} {ops : Array Oper} {rest : List Oper} {K : Act → World → Prop}
variable {d : Option Tmp} {ty : TypeId} {pos : String} {aft : Array Edge} {g : Option (Nat × Bool)} {v : Value} {t : Tmp} {op : Op} {x y z : Operand} {T T' : TypeId}
variable {N hn : Nat} {pa : List (Nat × Oper × Value)} {E : Sl → Hp → List Res → Prop} {r q : PlT} {i k : Nat}
def AltT (P : Program) (ops : Array Oper) (n : Nat) (w0 : World) (N : Nat) (E : Sl → Hp → List Res → Prop) (i k : Nat) (o : Oper) (r : PlT) (pa : List (Nat × Oper × Value)) (L : Sl) (H : Hp) (bs : List Res) : Prop :=
 (∀ t,o.dst = some t → t < N) ∧ At N L H w0 bs (one P ops (fun _ _ _ => False) o fun a' W' => ∃ v H' bs',Fr N (putL o.dst v L) a' ∧ St H' w0 bs' W' ∧ (k = 1 ∨ (∀ W,St H' w0 bs' W → St H w0 bs W) ∨ RedoP P ops n w0 N L H' bs' i pa) ∧ FlowT P ops n w0 N E r pa (putL o.dst v L) H' bs')
theorem FlowT.h1 {o : Oper} (h : AltT P ops hn w0 N E i k o r pa L H bs) : FlowT P ops hn w0 N E (.alt i k o r .no) pa L H bs := ⟨h,trivial⟩
theorem FlowT.h {o : Oper} (h : AltT P ops hn w0 N E i k o r pa L H bs) (hq : FlowT P ops hn w0 N E q pa L H bs) : FlowT P ops hn w0 N E (.alt i k o r q) pa L H bs := ⟨h,hq⟩
theorem FlowT.nn : FlowT P ops hn w0 N E .no pa L H bs := trivial
theorem FlowT.yv (hy : Yl P L H w0 bs ⟨some t,op,ty,pos,aft,none⟩ v) (ht : Nat.blt t N = true) (h : FlowT P ops hn w0 N E r ((i,⟨some t,op,ty,pos,aft,none⟩,v) :: pa) ((t,v) :: L) H bs) : FlowT P ops hn w0 N E (.light i ⟨some t,op,ty,pos,aft,none⟩ r) pa L H bs :=
 ⟨v,fun a W f s => .inl ⟨by simp [Region.wanted],hy a W (fun x u e => f.ev e) s⟩,blt_of ht,h⟩
theorem FlowT.m (hx : ev L x = some v) (ht : Nat.blt t N = true) (h : FlowT P ops hn w0 N E r ((i,⟨some t,.move x,ty,pos,aft,none⟩,v) :: pa) ((t,v) :: L) H bs) : FlowT P ops hn w0 N E (.light i ⟨some t,.move x,ty,pos,aft,none⟩ r) pa L H bs := .yv (.move hx) ht h
theorem AltT.into {H' : Hp} {bs' : List Res} (hw : k = 1 ∨ (∀ W,St H' w0 bs' W → St H w0 bs W) ∨ RedoP P ops hn w0 N L H' bs' i pa) (h : FlowT P ops hn w0 N E r pa ((t,v) :: L) H' bs') :
 At N ((t,v) :: L) H' w0 bs' (fun a' W' => ∃ v H' bs',Fr N (putL (some t) v L) a' ∧ St H' w0 bs' W' ∧ (k = 1 ∨ (∀ W,St H' w0 bs' W → St H w0 bs W) ∨ RedoP P ops hn w0 N L H' bs' i pa) ∧ FlowT P ops hn w0 N E r pa (putL (some t) v L) H' bs') := fun _ _ f s => ⟨v,H',bs',f,s,hw,h⟩
theorem AltT.al {l : List Value} (hz : zeroN P T = some l) (ht : Nat.blt t N = true) (h : ∀ b,FlowT P ops hn w0 N E r pa ((t,.pointer (some ⟨b,0,none⟩)) :: L) H (.box b l T :: bs)) : AltT P ops hn w0 N E i k ⟨some t,.alloc T,ty,pos,aft,none⟩ r pa L H bs :=
 ⟨blt_of ht,alloc hz ht fun b => AltT.into (.inr<|.inl fun _ s => s.drop) (h b)⟩
theorem AltT.bl {ps : List (Nat × Operand)} {pv : List (Nat × Value)} {len : Nat} {e : TypeId} {l : List Value} (hv : evp L ps = some pv) (hb : bslN P T len pv = some (e,l)) (ht : Nat.blt t N = true)
 (h : ∀ b,FlowT P ops hn w0 N E r pa ((t,.slice (some ⟨b,0,none⟩) len len) :: L) H (.box b l e :: bs)) : AltT P ops hn w0 N E i k ⟨some t,.buildSlice T len ps.toArray,ty,pos,aft,none⟩ r pa L H bs :=
 ⟨blt_of ht,buildSlice hv hb ht fun b => AltT.into (.inr<|.inl fun _ s => s.drop) (h b)⟩
theorem AltT.ct {X : Type} {f : FuncId} {xs : List Operand} {vs : List Value} {ats : Array TypeId} {C : X → Hp → Prop} {val : X → Value} (hf : callN P f = true) (hv : evs L xs = some vs)
 (hc : ∀ W,St H w0 bs W → Calls P f vs.toArray W fun e W' => ∃ x H',C x H' ∧ e = .returned (val x) ∧ Grow H W H' W') (ht : Nat.blt t N = true)
 (h : ∀ x H',C x H' → HUp w0 H H' → FlowT P ops hn w0 N E r pa ((t,val x) :: L) H' bs) : AltT P ops hn w0 N E i k ⟨some t,.call ⟨.value (.func f),xs.toArray,ats⟩,ty,pos,aft,none⟩ r pa L H bs :=
 ⟨blt_of ht,callT hf hv hc ht fun x H' hx u => AltT.into (.inr<|.inl fun _ s => s.weakH u.up) (h x H' hx u)⟩
theorem AltT.c3 {X : Type} {f : FuncId} {xs : List Operand} {vs : List Value} {ats : Array TypeId} {C : X → Prop} {val : X → Value} {H' : X → Hp} {bs' : X → List Res} (hf : callN P f = true) (hv : evs L xs = some vs)
 (hc : ∀ W,St H w0 bs W → Calls P f vs.toArray W fun e W' => ∃ x,C x ∧ e = .returned (val x) ∧ St (H' x) w0 (bs' x) W') (ht : Nat.blt t N = true)
 (hr : ∀ x,C x → RedoP P ops hn w0 N L (H' x) (bs' x) i pa) (h : ∀ x,C x → FlowT P ops hn w0 N E r pa ((t,val x) :: L) (H' x) (bs' x)) : AltT P ops hn w0 N E i 2 ⟨some t,.call ⟨.value (.func f),xs.toArray,ats⟩,ty,pos,aft,none⟩ r pa L H bs :=
 ⟨blt_of ht,callS hf hv hc ht fun x hx => AltT.into (.inr<|.inr<|hr x hx) (h x hx)⟩
theorem FlowT.fn {l tl : List Oper} {nn : Nat} (ht : l.drop nn = tl) (h : At N L H w0 bs (wpList P ops Q tl)) : FlowT P ops hn w0 N (fun L H bs => At N L H w0 bs (wpList P ops Q (l.drop nn))) .done pa L H bs := by
 subst ht;exact h
theorem At.ft {id : Nat} {l : List Oper} {p : PlT} (nn : Nat) (p0 : Pi0) (hm : P.follows .mixedOrders = true) (hB : (parB l.toArray nn [] && okT l.toArray nn [] [] p0) = true) (ht : fillT l p0 = p)
 (h : FlowT P l.toArray nn w0 n (fun L H bs => At n L H w0 bs (wpList P l.toArray Q (l.drop nn))) p [] L H bs) : At n L H w0 bs ((Code.region id l.toArray true).wp P Q) := flowT nn p0 hm hB ht h
end
def SliceAt (H : Hp) (v : Value) (n : Nat) (xs : List Value) : Prop := (v = .slice none 0 0 ∧ n = 0) ∨ ∃ b c,v = .slice (some ⟨b,0,none⟩) n c ∧ n ≤ c ∧ c ≤ maxLen ∧ MemAt H b 0 xs
theorem SliceAt.rep {H : Hp} {v : Value} {n z : Nat} {xs : List Value} {ds : List D} (h : SliceAt H v n xs) (hz : RepZ H z ds xs) (hn : ds.length = n) : Rep H (.seq z ds) [v] := by
 rcases h with ⟨rfl,rfl⟩ | ⟨b,c,rfl,h1,h2,h3⟩
 ·obtain rfl := List.eq_nil_of_length_eq_zero hn
  exact .empty (by simp [maxLen])
 ·exact .mk h3 hz hn h1 h2
theorem SliceAt.sl {H : Hp} {v : Value} {n : Nat} {xs : List Value} (h : SliceAt H v n xs) : ∃ p c,v = .slice p n c := by
 rcases h with ⟨rfl,rfl⟩ | ⟨b,c,rfl,_⟩
 ·exact ⟨_,_,rfl⟩
 ·exact ⟨_,_,rfl⟩
theorem Upd.new {bs bs' : List Res} {x y : Res} (h : Upd bs x y bs') : y ∈ bs' := by
 induction h with
 | head => exact .head _
 | tail _ ih => exact .tail _ ih
theorem SliceAt.up {H H' : Hp} {v : Value} {n : Nat} {xs : List Value} (h : SliceAt H v n xs) (u : Up H H') : SliceAt H' v n xs := by
 rcases h with h | ⟨b,c,e,h1,h2,h3⟩
 ·exact .inl h
 ·exact .inr ⟨b,c,e,h1,h2,h3.up u⟩
section
variable {P : Program} {n : Nat} {L : Sl} {H : Hp} {w0 : World} {bs : List Res} {Q : Exit → Act → World → Prop} {ops : Array Oper} {rest : List Oper} {K : Act → World → Prop}
variable {d : Option Tmp} {ty : TypeId} {pos : String} {aft : Array Edge} {v : Value} {t : Tmp} {x y : Operand} {T : TypeId}
theorem St.boxRowZ {b m z : Nat} {l : List Value} {e : TypeId} {W : World} (h : St H w0 (.box b l e :: bs) W) (hz : l.length = m * z) (hl : m ≤ maxLen) : St H w0 (.row e z (.slice (some ⟨b,0,none⟩) m m) m l :: bs) W := by
 have hb := h.own _ (.head _)
 refine ⟨h.ext,h.agr,fun x hx => ?_,?_⟩
 ·rcases List.mem_cons.1 hx with rfl | hx
  ·exact ⟨⟨hz,.inr ⟨b,m,l.toArray,rfl,hb.1.1,hb.1.2,Nat.le_refl _,hl,by simpa using hz,by rw [← hz];simp⟩⟩,fun c e => hb.2 c e⟩
  ·exact h.own x (.tail _ hx)
 ·have h1 := h.apart
  rw [List.pairwise_cons] at h1 ⊢
  exact ⟨fun z hz c e => h1.1 z hz c e,h1.2⟩
theorem appendR {e : TypeId} {size bytes m k : Nat} {r v : Value} {xs news : List Value} {bs' : Value → List Res} (hT : rowN P T = some (e,size,bytes)) (hx : ev L x = some r) (hm : ∀ r',Upd bs (.row e size r k xs) (.row e size r' (k + m) (xs ++ news)) (bs' r'))
 (hy : ev L y = some v) (hs : SliceAt H v m news) (hl : news.length = m * size) (h1 : ∀ u ∈ news,u.oneCell' = true) (h63 : k + m ≤ maxLen) (hb : (k + m) * bytes ≤ 140737488355328) (ht : Nat.blt t n = true)
 (h : ∀ r',At n ((t,r') :: L) H w0 (bs' r') K) : At n L H w0 bs (one P ops Q ⟨some t,.call ⟨.builtin .append,#[x,y],#[T,T]⟩,ty,pos,aft,none⟩ K) := by
 rcases hs with ⟨rfl,rfl⟩ | ⟨b,c,rfl,_,_,hmem⟩
 ·have hn : news = [] := List.eq_nil_of_length_eq_zero (by rw [hl,Nat.zero_mul])
  subst hn
  have e2 : bs' r = bs := (hm r).same (by rw [Nat.add_zero,List.append_nil])
  have h2 := h r
  rw [e2] at h2
  exact appendNone hT hx (hm r).mem hy ht h2
 ·exact appendA hT hx hm hy (fun W s j u e => by rw [Addr.add_lit];exact hmem.cell s.agr e) hl h1 h63 hb ht fun r' _ => h r'
variable {N hn i : Nat} {pa : List (Nat × Oper × Value)} {E : Sl → Hp → List Res → Prop} {q : PlT}
theorem AltT.apR {e : TypeId} {size bytes m k : Nat} {r v : Value} {xs news : List Value} {bs' : Value → List Res} (hT : rowN P T = some (e,size,bytes)) (hx : ev L x = some r) (hm : ∀ r',Upd bs (.row e size r k xs) (.row e size r' (k + m) (xs ++ news)) (bs' r'))
 (hy : ev L y = some v) (hs : SliceAt H v m news) (hl : news.length = m * size) (h1 : ∀ u ∈ news,u.oneCell' = true) (h63 : k + m ≤ maxLen) (hb : (k + m) * bytes ≤ 140737488355328) (ht : Nat.blt t N = true)
 (hr : ∀ r',RedoP P ops hn w0 N L H (bs' r') i pa) (h : ∀ p c,FlowT P ops hn w0 N E q pa ((t,.slice p (k + m) c) :: L) H (bs' (.slice p (k + m) c))) : AltT P ops hn w0 N E i 2 ⟨some t,.call ⟨.builtin .append,#[x,y],#[T,T]⟩,ty,pos,aft,none⟩ q pa L H bs :=
 ⟨blt_of ht,appendR hT hx hm hy hs hl h1 h63 hb ht fun r' => At.ra (hm r').new fun p c e => by subst e;exact AltT.into (.inr<|.inr<|hr _) (h p c)⟩
theorem AltT.blR {ps : List (Nat × Operand)} {pv : List (Nat × Value)} {len z k : Nat} {e : TypeId} {l : List Value} (hv : evp L ps = some pv) (hb : bslN P T len pv = some (e,l)) (ht : Nat.blt t N = true) (hz : l.length = len * z) (hl : len ≤ maxLen)
 (h : ∀ b,FlowT P ops hn w0 N E q pa ((t,.slice (some ⟨b,0,none⟩) len len) :: L) H (.row e z (.slice (some ⟨b,0,none⟩) len len) len l :: bs)) : AltT P ops hn w0 N E i k ⟨some t,.buildSlice T len ps.toArray,ty,pos,aft,none⟩ q pa L H bs :=
 ⟨blt_of ht,buildSlice hv hb ht fun b => reSt (fun _ s => s.boxRowZ hz hl) (AltT.into (.inr<|.inl fun _ s => s.drop) (h b))⟩
theorem freezeAt {e : TypeId} {size k : Nat} {r : Value} {xs : List Value} {G : Act → World → Prop} (h : ∀ H',HUp w0 H H' → SliceAt H' r k xs → At n L H' w0 bs G) : At n L H w0 (.row e size r k xs :: bs) G :=
 freezeRow fun H' u hr => h H' u (by
  rcases hr with h | ⟨b,c,e,h1,h2,h3⟩
  ·exact .inl h
  ·exact .inr ⟨b,c,e,h1,h2,h3⟩)
end
section
variable {P : Program} {n : Nat} {L : Sl} {H : Hp} {w0 : World} {bs : List Res} {Q : Exit → Act → World → Prop} {ops : Array Oper} {rest : List Oper} {K : Act → World → Prop}
variable {d : Option Tmp} {ty : TypeId} {pos : String} {aft : Array Edge} {v : Value} {t : Tmp} {x y : Operand} {T : TypeId}
theorem appendD {e : TypeId} {size bytes m c k : Nat} {p : Option Addr} {r : Value} {xs : List Value} {ds : List D} {bs' : List Value → Value → List Res} (hT : rowN P T = some (e,size,bytes)) (hx : ev L x = some r)
 (hm : ∀ news r',Upd bs (.row e size r k xs) (.row e size r' (k + m) (xs ++ news)) (bs' news r')) (hy : ev L y = some (.slice p m c)) (hr : Rep H (.seq size ds) [.slice p m c])
 (h63 : k + m ≤ maxLen) (hb : (k + m) * bytes ≤ 140737488355328) (ht : Nat.blt t n = true)
 (h : ∀ news r',RepZ H size ds news → At n ((t,r') :: L) H w0 (bs' news r') K) : At n L H w0 bs (one P ops Q ⟨some t,.call ⟨.builtin .append,#[x,y],#[T,T]⟩,ty,pos,aft,none⟩ K) := by
 have hlen := hr.len
 unfold Rep at hr
 obtain ⟨p',c',h1,h2,h3,h4⟩ := hr
 injection h1 with h1 _
 injection h1 with e1 e2 e3
 subst e1 e3
 rcases h4 with h4 | ⟨b,off,cs,rfl,hmem,hz⟩
 ·subst h4
  obtain rfl : m = 0 := e2
  cases p with
  | some A => exact appendA hT hx (hm []) hy (fun W s j u e => by simp at e) (by simp) (by simp) h63 hb ht fun r' _ => h [] r' .nil
  | none =>
   obtain ⟨hu,i,z,hi,hz,hsz,hby,hzs,h0⟩ := rowN_spec hT
   have e4 : bs' [] r = bs := (hm [] r).same (by rw [Nat.add_zero,List.append_nil])
   have h5 := h [] r .nil
   rw [e4] at h5
   intro a W f s
   refine one_plain rfl ?_
   unfold Oper.wp
   have hown : W.ownsRow w0.heap.size e size r k xs := (s.own _ (hm [] r).mem).1
   have hrun : (Builtin.append_ #[T,T] ty #[r,.slice none 0 c]).run P W = .ok r W := by
    rcases hown.2 with ⟨rfl,rfl⟩ | ⟨g,cap,cur,rfl,hbg,hgc,hnc,hcm,hcs,htake⟩
    ·simp [Builtin.append_,run_underlying hu,sizeOf,typeInfo,hi,Builtin.lenOf,Builtin.firstCells]
    ·simp [Builtin.append_,run_underlying hu,sizeOf,typeInfo,hi,Builtin.lenOf,Builtin.firstCells,hnc,storeCells]
   simp [execOp,resolve,invoke,builtin,f.ev hx,f.ev hy,hrun,Result.andThen,Oper.upon]
   exact h5 _ _ (f.put ht _) s
 ·exact appendA hT hx (hm cs) hy (fun W s j u e => by rw [Addr.add_lit];exact hmem.cell s.agr e) (by rw [hz.len,e2]) hz.one h63 hb ht fun r' _ => h cs r' hz
theorem At.apD {e : TypeId} {size bytes m c k : Nat} {p : Option Addr} {r : Value} {xs : List Value} {ds : List D} {bs' : List Value → Value → List Res} (hT : rowN P T = some (e,size,bytes)) (hx : ev L x = some r)
 (hm : ∀ news r',Upd bs (.row e size r k xs) (.row e size r' (k + m) (xs ++ news)) (bs' news r')) (hy : ev L y = some (.slice p m c)) (hr : Rep H (.seq size ds) [.slice p m c])
 (h63 : k + m ≤ maxLen) (hb : (k + m) * bytes ≤ 140737488355328) (ht : Nat.blt t n = true)
 (h : ∀ news r',RepZ H size ds news → At n ((t,r') :: L) H w0 (bs' news r') (wpList P ops Q rest)) : At n L H w0 bs (wpList P ops Q (⟨some t,.call ⟨.builtin .append,#[x,y],#[T,T]⟩,ty,pos,aft,none⟩ :: rest)) := cons (appendD hT hx hm hy hr h63 hb ht h)
theorem At.blR {ps : List (Nat × Operand)} {pv : List (Nat × Value)} {len z : Nat} {e : TypeId} {l : List Value} (hv : evp L ps = some pv) (hb : bslN P T len pv = some (e,l)) (ht : Nat.blt t n = true) (hz : l.length = len * z) (hl : len ≤ maxLen)
 (h : ∀ b,At n ((t,.slice (some ⟨b,0,none⟩) len len) :: L) H w0 (.row e z (.slice (some ⟨b,0,none⟩) len len) len l :: bs) (wpList P ops Q rest)) : At n L H w0 bs (wpList P ops Q (⟨some t,.buildSlice T len ps.toArray,ty,pos,aft,none⟩ :: rest)) :=
 .bl hv hb ht fun b => reSt (fun _ s => s.boxRowZ hz hl) (h b)
theorem At.rb {e : TypeId} {size k : Nat} {r : Value} {xs : List Value} {G : Act → World → Prop} (hk : 0 < k) (h : ∀ g cap more,r = .slice (some ⟨g,0,none⟩) k cap → k ≤ cap → cap ≤ maxLen → At n L H w0 (.box g (xs ++ more) e :: bs) G) : At n L H w0 (.row e size r k xs :: bs) G := fun a W f s => by
 have ho := s.own _ (.head _)
 have hap := List.pairwise_cons.1 s.apart
 have h1 : W.ownsRow w0.heap.size e size r k xs := ho.1
 rcases h1.2 with ⟨_,h0⟩ | ⟨g,cap,cur,hr,hbg,hgc,hnc,hcm,hcs,htake⟩
 ·omega
 ·have hcur : cur = (xs ++ cur.toList.drop (k * size)).toArray := by rw [← htake,List.take_append_drop]
  refine h g cap (cur.toList.drop (k * size)) hr hnc hcm a W f ⟨s.ext,s.agr,fun q hq => ?_,?_⟩
  ·rcases List.mem_cons.1 hq with rfl | hq
   ·exact ⟨⟨hbg,by rw [hgc];rw [← hcur]⟩,fun b eb => ho.2 b (by rw [hr];exact eb)⟩
   ·exact s.own q (.tail _ hq)
  ·exact List.pairwise_cons.2 ⟨fun q hq b eb => hap.1 q hq b (by rw [hr];exact eb),hap.2⟩
theorem At.rc {e : TypeId} {size k g cap : Nat} {xs : List Value} {G : Act → World → Prop} (hk : 0 < k) (h : ∀ more,k ≤ cap → cap ≤ maxLen → At n L H w0 (.box g (xs ++ more) e :: bs) G) : At n L H w0 (.row e size (.slice (some ⟨g,0,none⟩) k cap) k xs :: bs) G :=
 .rb hk fun g' cap' more er h1 h2 => by
  injection er with e1 _ e3
  injection e1 with e1
  injection e1 with e1
  subst e1 e3
  exact h more h1 h2
theorem At.rs {e : TypeId} {size k : Nat} {r : Value} {xs : List Value} {G : Act → World → Prop} (hm : Res.row e size r k xs ∈ bs) (hk : 0 < k) (h : ∀ g c,r = .slice (some ⟨g,0,none⟩) k c → At n L H w0 bs G) : At n L H w0 bs G := fun a W f s => by
 have ho : W.ownsRow w0.heap.size e size r k xs := (s.own _ hm).1
 rcases ho.2 with ⟨hr,h0⟩ | ⟨g,cap,cur,hr,_⟩
 ·omega
 ·exact h g cap hr a W f s
theorem Yl.loadR {e : TypeId} {size k g c off m : Nat} {xs vs : List Value} (hp : ev L x = some (.pointer (some ⟨g,off,none⟩))) (hT : aggN P T = some (some m)) (hm : Res.row e size (.slice (some ⟨g,0,none⟩) k c) k xs ∈ bs) (hl : vs.length = m) (hv : ∀ (j : Nat) u,vs[j]? = some u → xs[off + j]? = some u) {gd : Option (Nat × Bool)} : Yl P L H w0 bs ⟨d,.load T x,ty,pos,aft,gd⟩ (.agg vs.toArray) := .of_run fun a W f s => by
 subst hl
 have ho : W.ownsRow w0.heap.size e size (.slice (some ⟨g,0,none⟩) k c) k xs := (s.own _ hm).1
 obtain ⟨h1,h2⟩ := run_isAgg_yes (W := W) hT
 have h3 : (loadCells ⟨g,off,none⟩ vs.length).run P W = .ok vs.toArray W := run_loadCells_list W _ vs fun j u e => by
  have := World.ownsRow.cells ho (g := g) rfl (off + j) u (hv j u e)
  rw [Addr.add_lit,Nat.zero_add] at this
  rw [Addr.add_lit];exact this
 unfold execOp
 simp only [f x _ hp,Instr.loadAt,Instr.sureAddr,loadVar,Sem.run_bind,Sem.run_pure,Result.andThen,h1,h2,if_true,h3]
theorem MemAt.pre {H : Hp} {b off : Nat} {xs more : List Value} (h : MemAt H b off (xs ++ more)) : MemAt H b off xs := by
 obtain ⟨arr,t,m,h1,h2⟩ := h
 exact ⟨arr,t,m,h1,fun j u e => h2 j u (by rw [List.getElem?_append_left (List.getElem?_eq_some_iff.1 e).1];exact e)⟩
theorem setsL_app : ∀ (vs l more : List Value) (off : Nat),off + vs.length ≤ l.length → setsL (l ++ more) off vs = setsL l off vs ++ more
 | [],l,more,off,_ => rfl
 | v :: r,l,more,off,h => by
  unfold setsL
  rw [List.length_cons] at h
  rw [List.set_append_left _ _ (by omega)]
  exact setsL_app r (l.set off v) more (off + 1) (by rw [List.length_set];omega)
theorem setsL_right : ∀ (vs p l : List Value) (off : Nat),setsL (p ++ l) (p.length + off) vs = p ++ setsL l off vs
 | [],p,l,off => rfl
 | v :: r,p,l,off => by
  unfold setsL
  rw [List.set_append_right _ _ (by omega),show p.length + off - p.length = off by omega,Nat.add_assoc]
  exact setsL_right r p (l.set off v) (off + 1)
theorem RepZ.put {H : Hp} {z : Nat} {d : D} {vs : List Value} (hd : Rep H d vs) (hz : vs.length = z) : ∀ {ds : List D} {l : List Value} {i : Nat},RepZ H z ds l → i < ds.length → RepZ H z (ds.set i d) (setsL l (i * z) vs)
 | [],l,i,_,hi => by simp at hi
 | d0 :: r,l,0,h,_ => by
  unfold RepZ at h
  obtain ⟨x,y,rfl,h1,h2,h3⟩ := h
  rw [List.set_cons_zero,Nat.zero_mul,setsL_app _ _ _ _ (by omega)]
  have := setsL_all vs [] x (by omega)
  simp only [List.nil_append,List.length_nil] at this
  rw [this]
  unfold RepZ
  exact ⟨vs,y,rfl,hz,hd,h3⟩
 | d0 :: r,l,i + 1,h,hi => by
  unfold RepZ at h
  obtain ⟨x,y,rfl,h1,h2,h3⟩ := h
  have := RepZ.put hd hz (i := i) h3 (by simpa using hi)
  rw [List.set_cons_succ,show (i + 1) * z = x.length + i * z by rw [h1,Nat.succ_mul];omega,setsL_right]
  unfold RepZ
  exact ⟨x,_,rfl,h1,h2,this⟩
theorem At.sE {b off : Nat} {l vs : List Value} {t' : TypeId} {bs' : List Res} (hm : Upd bs (.box b l t') (.box b (setsL l off vs) t') bs') (hp : ev L x = some (.pointer (some ⟨b,off,none⟩))) (hv : ev L y = some (.agg vs.toArray)) (hT : sizeN P T = some vs.length) (h1 : ∀ u ∈ vs,u.oneCell' = true)
 (ho : off + vs.length ≤ l.length) (h : At n L H w0 bs' (wpList P ops Q rest)) : At n L H w0 bs (wpList P ops Q (⟨none,.store T x y,ty,pos,aft,none⟩ :: rest)) := cons (stores hp hv hT rfl h1 hm ho h)
variable {N hn i : Nat} {pa : List (Nat × Oper × Value)} {E : Sl → Hp → List Res → Prop} {q : PlT} {fr : List (Nat × Nat × Oper)}
theorem AltT.apD {e : TypeId} {size bytes m c k : Nat} {p : Option Addr} {r : Value} {xs : List Value} {ds : List D} {bs' : List Value → Value → List Res} (hT : rowN P T = some (e,size,bytes)) (hx : ev L x = some r)
 (hm : ∀ news r',Upd bs (.row e size r k xs) (.row e size r' (k + m) (xs ++ news)) (bs' news r')) (hy : ev L y = some (.slice p m c)) (hr : Rep H (.seq size ds) [.slice p m c])
 (h63 : k + m ≤ maxLen) (hb : (k + m) * bytes ≤ 140737488355328) (ht : Nat.blt t N = true)
 (hr2 : ∀ news r',RedoP P ops hn w0 N L H (bs' news r') i pa) (h : ∀ news p c,RepZ H size ds news → FlowT P ops hn w0 N E q pa ((t,.slice p (k + m) c) :: L) H (bs' news (.slice p (k + m) c))) :
 AltT P ops hn w0 N E i 2 ⟨some t,.call ⟨.builtin .append,#[x,y],#[T,T]⟩,ty,pos,aft,none⟩ q pa L H bs :=
 ⟨blt_of ht,appendD hT hx hm hy hr h63 hb ht fun news r' hz => At.ra (hm news r').new fun p c e => by subst e;exact AltT.into (.inr<|.inr<|hr2 _ _) (h news p c hz)⟩
theorem FlowP.apD {e : TypeId} {size bytes m c k : Nat} {p : Option Addr} {r : Value} {xs : List Value} {ds : List D} {bs' : List Value → Value → List Res} (hT : rowN P T = some (e,size,bytes)) (hx : ev L x = some r)
 (hm : ∀ news r',Upd bs (.row e size r k xs) (.row e size r' (k + m) (xs ++ news)) (bs' news r')) (hy : ev L y = some (.slice p m c)) (hr : Rep H (.seq size ds) [.slice p m c])
 (h63 : k + m ≤ maxLen) (hb : (k + m) * bytes ≤ 140737488355328) (ht : Nat.blt t N = true)
 (hr2 : ∀ news r',RedoP P ops hn w0 N L H (bs' news r') i pa) (h : ∀ news p c,RepZ H size ds news → FlowP P ops hn w0 N E fr pa ((t,.slice p (k + m) c) :: L) H (bs' news (.slice p (k + m) c))) :
 FlowP P ops hn w0 N E ((i,3,⟨some t,.call ⟨.builtin .append,#[x,y],#[T,T]⟩,ty,pos,aft,none⟩) :: fr) pa L H bs :=
 ⟨blt_of ht,appendD hT hx hm hy hr h63 hb ht fun news r' hz => At.ra (hm news r').new fun p c e => by subst e;exact FlowP.into (.inr<|.inr<|hr2 _ _) (h news p c hz)⟩
theorem FlowP.blR {ps : List (Nat × Operand)} {pv : List (Nat × Value)} {len z k : Nat} {e : TypeId} {l : List Value} (hv : evp L ps = some pv) (hb : bslN P T len pv = some (e,l)) (ht : Nat.blt t N = true) (hz : l.length = len * z) (hl : len ≤ maxLen)
 (h : ∀ b,FlowP P ops hn w0 N E fr pa ((t,.slice (some ⟨b,0,none⟩) len len) :: L) H (.row e z (.slice (some ⟨b,0,none⟩) len len) len l :: bs)) : FlowP P ops hn w0 N E ((i,k + 1,⟨some t,.buildSlice T len ps.toArray,ty,pos,aft,none⟩) :: fr) pa L H bs :=
 ⟨blt_of ht,buildSlice hv hb ht fun b => reSt (fun _ s => s.boxRowZ hz hl) (FlowP.into (.inr<|.inl fun _ s => s.drop) (h b))⟩
theorem At.apD0 {e : TypeId} {size bytes m c : Nat} {p : Option Addr} {r : Value} {ds : List D} {bs' : List Value → Value → List Res} (hT : rowN P T = some (e,size,bytes)) (hx : ev L x = some r)
 (hm : ∀ news r',Upd bs (.row e size r 0 []) (.row e size r' m news) (bs' news r')) (hy : ev L y = some (.slice p m c)) (hr : Rep H (.seq size ds) [.slice p m c])
 (h63 : m ≤ maxLen) (hb : m * bytes ≤ 140737488355328) (ht : Nat.blt t n = true)
 (h : ∀ news r',RepZ H size ds news → At n ((t,r') :: L) H w0 (bs' news r') (wpList P ops Q rest)) : At n L H w0 bs (wpList P ops Q (⟨some t,.call ⟨.builtin .append,#[x,y],#[T,T]⟩,ty,pos,aft,none⟩ :: rest)) :=
 .apD hT hx (k := 0) (xs := []) (fun news r' => by rw [Nat.zero_add];exact hm news r') hy hr (by omega) (by rw [Nat.zero_add];exact hb) ht h
theorem AltT.apD0 {e : TypeId} {size bytes m c : Nat} {p : Option Addr} {r : Value} {ds : List D} {bs' : List Value → Value → List Res} (hT : rowN P T = some (e,size,bytes)) (hx : ev L x = some r)
 (hm : ∀ news r',Upd bs (.row e size r 0 []) (.row e size r' m news) (bs' news r')) (hy : ev L y = some (.slice p m c)) (hr : Rep H (.seq size ds) [.slice p m c])
 (h63 : m ≤ maxLen) (hb : m * bytes ≤ 140737488355328) (ht : Nat.blt t N = true)
 (hr2 : ∀ news r',RedoP P ops hn w0 N L H (bs' news r') i pa) (h : ∀ news p c,RepZ H size ds news → FlowT P ops hn w0 N E q pa ((t,.slice p m c) :: L) H (bs' news (.slice p m c))) :
 AltT P ops hn w0 N E i 2 ⟨some t,.call ⟨.builtin .append,#[x,y],#[T,T]⟩,ty,pos,aft,none⟩ q pa L H bs :=
 .apD hT hx (k := 0) (xs := []) (fun news r' => by rw [Nat.zero_add];exact hm news r') hy hr (by omega) (by rw [Nat.zero_add];exact hb) ht hr2 fun news p c hz => by rw [Nat.zero_add];exact h news p c hz
theorem FlowP.apD0 {e : TypeId} {size bytes m c : Nat} {p : Option Addr} {r : Value} {ds : List D} {bs' : List Value → Value → List Res} (hT : rowN P T = some (e,size,bytes)) (hx : ev L x = some r)
 (hm : ∀ news r',Upd bs (.row e size r 0 []) (.row e size r' m news) (bs' news r')) (hy : ev L y = some (.slice p m c)) (hr : Rep H (.seq size ds) [.slice p m c])
 (h63 : m ≤ maxLen) (hb : m * bytes ≤ 140737488355328) (ht : Nat.blt t N = true)
 (hr2 : ∀ news r',RedoP P ops hn w0 N L H (bs' news r') i pa) (h : ∀ news p c,RepZ H size ds news → FlowP P ops hn w0 N E fr pa ((t,.slice p m c) :: L) H (bs' news (.slice p m c))) :
 FlowP P ops hn w0 N E ((i,3,⟨some t,.call ⟨.builtin .append,#[x,y],#[T,T]⟩,ty,pos,aft,none⟩) :: fr) pa L H bs :=
 .apD hT hx (k := 0) (xs := []) (fun news r' => by rw [Nat.zero_add];exact hm news r') hy hr (by omega) (by rw [Nat.zero_add];exact hb) ht hr2 fun news p c hz => by rw [Nat.zero_add];exact h news p c hz
end
inductive EK where
 | b | s | i
def ekOf (P : Program) (t : TypeId) : Option EK :=
 match P.underlying t with
 | some .bool => some .b
 | some .string => some .s
 | some (.int _) => some .i
 | _ => none
def eqV1 : EK → Value → Value → Option Bool
 | .b,.bool a,.bool b => some (decide (a = b))
 | .s,.string a,.string b => some (decide (a = b))
 | .i,.int k a,.int k' b => if k = k' then some (decide (a = b)) else none
 | _,_,_ => none
def eqVs : List (Nat × EK) → List Value → List Value → Option Bool
 | [],_,_ => some true
 | (o,k) :: r,cs,ds =>
  match cs[o]?,ds[o]? with
  | some a,some b =>
   match eqV1 k a b,eqVs r cs ds with
   | some p,some q => some (p && q)
   | _,_ => none
  | _,_ => none
def fkOf (P : Program) (f : Field) : Option (Nat × EK) := if f.name = "_" then none else (ekOf P f.type).map fun k => (f.offset,k)
def eqT (P : Program) (T : TypeId) : Option (List (Nat × EK)) :=
 match P.underlying T with
 | some (.struct fs) => if P.stoodInHeld T || P.eqGuardType P.depth T then none else fs.toList.mapM (fkOf P)
 | _ => none
section
variable {P : Program}
theorem ekOf_plain {t : TypeId} {k : EK} (h : ekOf P t = some k) : P.plainKey t = true := by
 unfold ekOf at h;unfold Program.plainKey
 split at h <;> simp_all
theorem run_eqV1 {t : TypeId} {k : EK} {a b : Value} {r : Bool} (hk : ekOf P t = some k) (h : eqV1 k a b = some r) (d : Nat) (w : World) : (Op.equalIn (d + 1) t a b).run P w = .ok r w := by
 unfold ekOf at hk
 unfold eqV1 at h
 split at h
 ·split at hk <;> simp only [Option.some.injEq,reduceCtorEq] at hk
  rename_i hu
  rw [run_equalIn_bool w d t _ _ hu]
  cases h
  rfl
 ·split at hk <;> simp only [Option.some.injEq,reduceCtorEq] at hk
  rename_i hu
  rw [run_equalIn_string w d t _ _ hu]
  cases h
  congr 1
  rw [Bool.eq_iff_iff,beq_iff_eq,decide_eq_true_eq]
  constructor
  ·intro e;rwa [ByteArray.toList_eq,ByteArray.toList_eq,Array.toList_inj,← ByteArray.ext_iff] at e
  ·intro e;rw [e]
 ·split at hk <;> simp only [Option.some.injEq,reduceCtorEq] at hk
  rename_i hu
  split at h
  ·rename_i e
   subst e
   rw [run_equalIn_int w d t _ _ _ _ hu]
   cases h
   rfl
  ·cases h
 ·cases h
theorem run_eqVs (d : Nat) (w : World) (cs ds : List Value) : ∀ (fs : List Field) (ks : List (Nat × EK)) (r : Bool),fs.mapM (fkOf P) = some ks → eqVs ks cs ds = some r → (Op.eqFields (d + 1) cs.toArray ds.toArray fs).run P w = .ok r w
 | [],ks,r,hk,hr => by
  simp at hk
  subst hk
  simp only [eqVs,Option.some.injEq] at hr
  subst hr
  simp [Op.eqFields]
 | f :: fs,ks,r,hk,hr => by
  rw [List.mapM_cons] at hk
  simp only [bind,Option.bind_eq_some_iff,pure,Option.some.injEq] at hk
  obtain ⟨k,hk1,ks',hk2,rfl⟩ := hk
  unfold fkOf at hk1
  split at hk1
  ·cases hk1
  rename_i hn
  rw [Option.map_eq_some_iff] at hk1
  obtain ⟨e,he,rfl⟩ := hk1
  simp only [eqVs] at hr
  split at hr
  ·rename_i a b ha hb
   split at hr
   ·rename_i p q hp hq
    cases hr
    have h1 := run_part_plain w (ekOf_plain he) (xs := cs.toArray) (off := f.offset) (v := a) (by simpa using ha)
    have h2 := run_part_plain w (ekOf_plain he) (xs := ds.toArray) (off := f.offset) (v := b) (by simpa using hb)
    have h3 := run_eqV1 he hp d w
    have h4 := run_eqVs d w cs ds fs ks' q hk2 hq
    simp only [Op.eqFields,hn,ne_eq,not_false_eq_true,if_true,Sem.run_bind,h1,h2,h3,Result.andThen_ok]
    cases p
    ·simp
    ·simpa using h4
   ·cases hr
  ·cases hr
theorem run_eqT {T : TypeId} {ks : List (Nat × EK)} {cs ds : List Value} {r : Bool} (hT : eqT P T = some ks) (hr : eqVs ks cs ds = some r) (w : World) :
 (Op.equal T (.agg cs.toArray) (.agg ds.toArray)).run P w = .ok r w ∧ P.eqGuardType P.depth T = false := by
 unfold eqT at hT
 split at hT
 ·rename_i fs hu
  split at hT
  ·cases hT
  rename_i hb
  rw [Bool.not_eq_true,Bool.or_eq_false_iff] at hb
  have hf : P.fieldsOf T = fs := by simp [Program.fieldsOf,hu]
  refine ⟨?_,hb.2⟩
  show (Op.equalIn (9998 + 1 + 1) T _ _).run P w = _
  rw [run_equalIn_struct w (9998 + 1) T _ _ (by rw [hf];exact hu) hb.1,hf]
  exact run_eqVs 9998 w cs ds fs.toList ks r hT hr
 ·cases hT
variable {n : Nat} {L : Sl} {H : Hp} {w0 : World} {bs : List Res} {d : Option Tmp} {ty : TypeId} {pos : String} {aft : Array Edge} {g : Option (Nat × Bool)} {x y : Operand} {T T' : TypeId}
theorem Yl.neA {ks : List (Nat × EK)} {cs ds : List Value} {r : Bool} (hT : eqT P T = some ks) (hx : ev L x = some (.agg cs.toArray)) (hy : ev L y = some (.agg ds.toArray)) (hr : eqVs ks cs ds = some r) : Yl P L H w0 bs ⟨d,.binOp .neq T x y T',ty,pos,aft,g⟩ (.bool (!r)) := .of_run fun a W f _ => by
 obtain ⟨h1,h2⟩ := run_eqT hT hr W
 unfold execOp
 simp [f x _ hx,f y _ hy,eqGuard,h2,binOp,h1]
end
end Go.Sx
namespace Go.Proofs.YtmbiojpcidccjaaGreatDoor
open Go.RowKit Go.Par Go.Sx
theorem Fx.eqt65 : eqT Tryz.prog 65 = Option.some [(0,Go.Sx.EK.s),(1,Go.Sx.EK.b)] := by kernel_rfl
theorem Fx.eqt87 : eqT Tryz.prog 87 = Option.some [(0,Go.Sx.EK.s),(1,Go.Sx.EK.s),(2,Go.Sx.EK.i)] := by kernel_rfl
theorem Fx.eqt96 : eqT Tryz.prog 96 = Option.some [(0,Go.Sx.EK.s),(1,Go.Sx.EK.i),(2,Go.Sx.EK.i)] := by kernel_rfl
theorem fg_eq {a b : Fg} : a = b ↔ a.nm = b.nm ∧ a.init = b.init := by cases a;cases b;simp
theorem lk_eq {a b : Lk} : a = b ↔ a.fr = b.fr ∧ a.to = b.to ∧ a.lat.toInt = b.lat.toInt := by cases a;cases b;simp [Int64.toInt_inj]
theorem vr_eq {a b : Vr} : a = b ↔ a.nm = b.nm ∧ a.ty.toNat = b.ty.toNat ∧ a.init.toInt = b.init.toInt := by cases a;cases b;simp [Int64.toInt_inj,UInt8.toNat_inj]
set_option maxRecDepth 100000 in
theorem slEqF (H : Hp) (l m : List Fg) (v u : Value) (hs : Rep H (.seq 2 (l.map dFg)) [v]) (ht : Rep H (.seq 2 (m.map dFg)) [u]) (w : World) (hA : Agr H w) :
 Calls Tryz.prog 44 #[v,u] w fun r w' => r = .returned (.bool (eqP (l = m))) ∧ Ext w w' := by
 obtain ⟨p,c,e,_⟩ := hs.sl
 simp only [List.cons.injEq,and_true,List.length_map] at e
 subst e
 obtain ⟨p2,c2,e,_⟩ := ht.sl
 simp only [List.cons.injEq,and_true,List.length_map] at e
 subst e
 have hcap := hs.cap
 have hcap2 := ht.cap
 refine Sx.enter (H := H) Tryz.func44 rfl Tryz.ntmps44 rfl hA ?_
 refine .sr<|.a Z Z<|.nt<|.sq<|.sr<|.m Z Z<|.yv (.lenSl Fx.sl36 Z) Z<|.m Z Z<|.yv (.lenSl Fx.sl36 Z) Z<|.yv (.neq Z Z) Z<|.nt<|.cd Z (fun h10 => ?_) (fun h10 => ?_)
 ·try simp only [dt] at h10
  have hne : ¬ l = m := fun e => by rw [e] at h10;exact h10 rfl
  refine .sr<|.a Z Z<|.nt<|.rt<|.tR<|?_
  refine Sx.ret1 (.inl rfl) rfl (.tmp rfl) fun W s => ⟨retB ?_,s.ext⟩
  first
   | (rw [eqP_iff];exact ⟨fun h => (by cases h),fun h => absurd h hne⟩)
   | (rw [eqP_iff];exact ⟨fun _ => heq,fun _ => rfl⟩)
 try simp only [df] at h10
 have hlen : l.length = m.length := by omega
 refine .sk<|.tN<|.sq<|.sr<|.m Z Z<|.yv (.lenSl Fx.sl36 Z) Z<|.m Z Z<|.nt<|.bk<|.lp (X := Nat) [(0,_),(1,_),(12,_)] ⟨rfl,rfl,rfl,trivial⟩ [] (fun k => [(13,.int .i64 (k : Nat))]) (fun k => H) (fun k => []) (fun k => k ≤ l.length ∧ l.take k = m.take k) (fun k => l.length - k) 0 (fun _ s => s) ⟨rfl,trivial⟩ ⟨by omega,rfl⟩ fun k hC => ?_
 obtain ⟨hk0,hal⟩ := hC
 refine .sr<|.yv (.lss Z Z) Z<|.nt<|.sq<|.cd Z (fun h14 => ?_) (fun h14 => ?_)
 ·try simp only [dt] at h14
  have hk : k < l.length := by omega
  have hkm : k < m.length := by omega
  obtain ⟨bE,oE,cE,hpE,rE,lE,mE⟩ := hs.elem (map_at (f := dFg) hk)
  cases hpE
  generalize hxE : l[k] = xE at rE
  obtain ⟨rfl,_⟩ := fg_open rE
  obtain ⟨bF,oF,cF,hpF,rF,lF,mF⟩ := ht.elem (map_at (f := dFg) hkm)
  cases hpF
  generalize hxF : m[k] = xF at rF
  obtain ⟨rfl,_⟩ := fg_open rF
  refine .sk<|.tN<|.sq<|.bk<|.sr<|.m Z Z<|.a Z Z<|.nt<|.sq<|.fl (trip := [(_,_,_),(_,_,_),(_,_,_),(_,_,_),(_,_,_),(_,_,_),(_,_,_),(_,_,_)]) 8 [(0,0),(1,0),(2,0),(3,0),(4,0),(5,0),(6,0),(7,0)] (by kernel_rfl) (by kernel_rfl) Z<|.m Z Z<|.m Z Z<|.yv (.indexSl Fx.sl36 Z Z Z (by omega) (q := oE + k * 2) Z) Z<|.yv (.loadMW Z Fx.agg65 mE Z) Z<|.m Z Z<|.m Z Z<|.yv (.indexSl Fx.sl36 Z Z Z (by omega) (q := oF + k * 2) Z) Z<|.yv (.loadMW Z Fx.agg65 mF Z) Z<|.fn (tl := [_]) Z<|.yv (.neA Fx.eqt65 Z Z Z) Z<|.nt<|.cd Z (fun h24 => ?_) (fun h24 => ?_)
  ·try simp only [dt] at h24
   have hne : ¬ l = m := fun e => by
    subst e
    rw [hxE] at hxF
    subst hxF
    simp at h24
   refine .sr<|.a Z Z<|.nt<|.rt<|.bR<|.tR<|.tR<|.bR<|.tR<|?_
   refine Sx.ret1 (.inl rfl) rfl (.tmp rfl) fun W s => ⟨retB ?_,s.ext⟩
   first
    | (rw [eqP_iff];exact ⟨fun h => (by cases h),fun h => absurd h hne⟩)
    | (rw [eqP_iff];exact ⟨fun _ => heq,fun _ => rfl⟩)
  try simp only [df] at h24
  have heq : l[k] = m[k] := by
   rw [hxE,hxF]
   rw [fg_eq];simpa [str_inj] using h24
  exact .sk<|.bN<|.tN<|.rg<|.yv (.add Z Z (w6 (by omega))) Z<|.m Z Z<|.nt<|.ag (k + 1) ⟨rfl,trivial⟩ ⟨rfl,rfl,rfl,trivial⟩ (fun _ s => s) ⟨by omega,take_eq_succ hk hkm hal heq⟩ (by omega)
 try simp only [df] at h14
 have heq : l = m := by
  have e : k = l.length := by omega
  have e2 : k = m.length := by omega
  have h1 := hal
  rw [e,List.take_length,hlen,List.take_length] at h1
  exact h1
 refine .ex<|.tE<|.tE<|.bE<|.tN<|.sr<|.a Z Z<|.nt<|.rt<|?_
 refine Sx.ret1 (.inl rfl) rfl (.tmp rfl) fun W s => ⟨retB ?_,s.ext⟩
 first
  | (rw [eqP_iff];exact ⟨fun h => (by cases h),fun h => absurd h hne⟩)
  | (rw [eqP_iff];exact ⟨fun _ => heq,fun _ => rfl⟩)
set_option maxRecDepth 100000 in
theorem slEqL (H : Hp) (l m : List Lk) (v u : Value) (hs : Rep H (.seq 3 (l.map dLk)) [v]) (ht : Rep H (.seq 3 (m.map dLk)) [u]) (w : World) (hA : Agr H w) :
 Calls Tryz.prog 45 #[v,u] w fun r w' => r = .returned (.bool (eqP (l = m))) ∧ Ext w w' := by
 obtain ⟨p,c,e,_⟩ := hs.sl
 simp only [List.cons.injEq,and_true,List.length_map] at e
 subst e
 obtain ⟨p2,c2,e,_⟩ := ht.sl
 simp only [List.cons.injEq,and_true,List.length_map] at e
 subst e
 have hcap := hs.cap
 have hcap2 := ht.cap
 refine Sx.enter (H := H) Tryz.func45 rfl Tryz.ntmps45 rfl hA ?_
 refine .sr<|.a Z Z<|.nt<|.sq<|.sr<|.m Z Z<|.yv (.lenSl Fx.sl37 Z) Z<|.m Z Z<|.yv (.lenSl Fx.sl37 Z) Z<|.yv (.neq Z Z) Z<|.nt<|.cd Z (fun h10 => ?_) (fun h10 => ?_)
 ·try simp only [dt] at h10
  have hne : ¬ l = m := fun e => by rw [e] at h10;exact h10 rfl
  refine .sr<|.a Z Z<|.nt<|.rt<|.tR<|?_
  refine Sx.ret1 (.inl rfl) rfl (.tmp rfl) fun W s => ⟨retB ?_,s.ext⟩
  first
   | (rw [eqP_iff];exact ⟨fun h => (by cases h),fun h => absurd h hne⟩)
   | (rw [eqP_iff];exact ⟨fun _ => heq,fun _ => rfl⟩)
 try simp only [df] at h10
 have hlen : l.length = m.length := by omega
 refine .sk<|.tN<|.sq<|.sr<|.m Z Z<|.yv (.lenSl Fx.sl37 Z) Z<|.m Z Z<|.nt<|.bk<|.lp (X := Nat) [(0,_),(1,_),(12,_)] ⟨rfl,rfl,rfl,trivial⟩ [] (fun k => [(13,.int .i64 (k : Nat))]) (fun k => H) (fun k => []) (fun k => k ≤ l.length ∧ l.take k = m.take k) (fun k => l.length - k) 0 (fun _ s => s) ⟨rfl,trivial⟩ ⟨by omega,rfl⟩ fun k hC => ?_
 obtain ⟨hk0,hal⟩ := hC
 refine .sr<|.yv (.lss Z Z) Z<|.nt<|.sq<|.cd Z (fun h14 => ?_) (fun h14 => ?_)
 ·try simp only [dt] at h14
  have hk : k < l.length := by omega
  have hkm : k < m.length := by omega
  obtain ⟨bE,oE,cE,hpE,rE,lE,mE⟩ := hs.elem (map_at (f := dLk) hk)
  cases hpE
  generalize hxE : l[k] = xE at rE
  obtain ⟨rfl,_⟩ := lk_open rE
  obtain ⟨bF,oF,cF,hpF,rF,lF,mF⟩ := ht.elem (map_at (f := dLk) hkm)
  cases hpF
  generalize hxF : m[k] = xF at rF
  obtain ⟨rfl,_⟩ := lk_open rF
  refine .sk<|.tN<|.sq<|.bk<|.sr<|.m Z Z<|.a Z Z<|.nt<|.sq<|.fl (trip := [(_,_,_),(_,_,_),(_,_,_),(_,_,_),(_,_,_),(_,_,_),(_,_,_),(_,_,_)]) 8 [(0,0),(1,0),(2,0),(3,0),(4,0),(5,0),(6,0),(7,0)] (by kernel_rfl) (by kernel_rfl) Z<|.m Z Z<|.m Z Z<|.yv (.indexSl Fx.sl37 Z Z Z (by omega) (q := oE + k * 3) Z) Z<|.yv (.loadMW Z Fx.agg87 mE Z) Z<|.m Z Z<|.m Z Z<|.yv (.indexSl Fx.sl37 Z Z Z (by omega) (q := oF + k * 3) Z) Z<|.yv (.loadMW Z Fx.agg87 mF Z) Z<|.fn (tl := [_]) Z<|.yv (.neA Fx.eqt87 Z Z Z) Z<|.nt<|.cd Z (fun h24 => ?_) (fun h24 => ?_)
  ·try simp only [dt] at h24
   have hne : ¬ l = m := fun e => by
    subst e
    rw [hxE] at hxF
    subst hxF
    simp at h24
   refine .sr<|.a Z Z<|.nt<|.rt<|.bR<|.tR<|.tR<|.bR<|.tR<|?_
   refine Sx.ret1 (.inl rfl) rfl (.tmp rfl) fun W s => ⟨retB ?_,s.ext⟩
   first
    | (rw [eqP_iff];exact ⟨fun h => (by cases h),fun h => absurd h hne⟩)
    | (rw [eqP_iff];exact ⟨fun _ => heq,fun _ => rfl⟩)
  try simp only [df] at h24
  have heq : l[k] = m[k] := by
   rw [hxE,hxF]
   rw [lk_eq];simpa [str_inj] using h24
  exact .sk<|.bN<|.tN<|.rg<|.yv (.add Z Z (w6 (by omega))) Z<|.m Z Z<|.nt<|.ag (k + 1) ⟨rfl,trivial⟩ ⟨rfl,rfl,rfl,trivial⟩ (fun _ s => s) ⟨by omega,take_eq_succ hk hkm hal heq⟩ (by omega)
 try simp only [df] at h14
 have heq : l = m := by
  have e : k = l.length := by omega
  have e2 : k = m.length := by omega
  have h1 := hal
  rw [e,List.take_length,hlen,List.take_length] at h1
  exact h1
 refine .ex<|.tE<|.tE<|.bE<|.tN<|.sr<|.a Z Z<|.nt<|.rt<|?_
 refine Sx.ret1 (.inl rfl) rfl (.tmp rfl) fun W s => ⟨retB ?_,s.ext⟩
 first
  | (rw [eqP_iff];exact ⟨fun h => (by cases h),fun h => absurd h hne⟩)
  | (rw [eqP_iff];exact ⟨fun _ => heq,fun _ => rfl⟩)
set_option maxRecDepth 100000 in
theorem slEqV (H : Hp) (l m : List Vr) (v u : Value) (hs : Rep H (.seq 3 (l.map (dVr .u8))) [v]) (ht : Rep H (.seq 3 (m.map (dVr .u8))) [u]) (w : World) (hA : Agr H w) :
 Calls Tryz.prog 80 #[v,u] w fun r w' => r = .returned (.bool (eqP (l = m))) ∧ Ext w w' := by
 obtain ⟨p,c,e,_⟩ := hs.sl
 simp only [List.cons.injEq,and_true,List.length_map] at e
 subst e
 obtain ⟨p2,c2,e,_⟩ := ht.sl
 simp only [List.cons.injEq,and_true,List.length_map] at e
 subst e
 have hcap := hs.cap
 have hcap2 := ht.cap
 refine Sx.enter (H := H) Tryz.func80 rfl Tryz.ntmps80 rfl hA ?_
 refine .sr<|.a Z Z<|.nt<|.sq<|.sr<|.m Z Z<|.yv (.lenSl Fx.sl78 Z) Z<|.m Z Z<|.yv (.lenSl Fx.sl78 Z) Z<|.yv (.neq Z Z) Z<|.nt<|.cd Z (fun h10 => ?_) (fun h10 => ?_)
 ·try simp only [dt] at h10
  have hne : ¬ l = m := fun e => by rw [e] at h10;exact h10 rfl
  refine .sr<|.a Z Z<|.nt<|.rt<|.tR<|?_
  refine Sx.ret1 (.inl rfl) rfl (.tmp rfl) fun W s => ⟨retB ?_,s.ext⟩
  first
   | (rw [eqP_iff];exact ⟨fun h => (by cases h),fun h => absurd h hne⟩)
   | (rw [eqP_iff];exact ⟨fun _ => heq,fun _ => rfl⟩)
 try simp only [df] at h10
 have hlen : l.length = m.length := by omega
 refine .sk<|.tN<|.sq<|.sr<|.m Z Z<|.yv (.lenSl Fx.sl78 Z) Z<|.m Z Z<|.nt<|.bk<|.lp (X := Nat) [(0,_),(1,_),(12,_)] ⟨rfl,rfl,rfl,trivial⟩ [] (fun k => [(13,.int .i64 (k : Nat))]) (fun k => H) (fun k => []) (fun k => k ≤ l.length ∧ l.take k = m.take k) (fun k => l.length - k) 0 (fun _ s => s) ⟨rfl,trivial⟩ ⟨by omega,rfl⟩ fun k hC => ?_
 obtain ⟨hk0,hal⟩ := hC
 refine .sr<|.yv (.lss Z Z) Z<|.nt<|.sq<|.cd Z (fun h14 => ?_) (fun h14 => ?_)
 ·try simp only [dt] at h14
  have hk : k < l.length := by omega
  have hkm : k < m.length := by omega
  obtain ⟨bE,oE,cE,hpE,rE,lE,mE⟩ := hs.elem (map_at (f := (dVr .u8)) hk)
  cases hpE
  generalize hxE : l[k] = xE at rE
  obtain ⟨rfl,_⟩ := vr_open rE
  obtain ⟨bF,oF,cF,hpF,rF,lF,mF⟩ := ht.elem (map_at (f := (dVr .u8)) hkm)
  cases hpF
  generalize hxF : m[k] = xF at rF
  obtain ⟨rfl,_⟩ := vr_open rF
  refine .sk<|.tN<|.sq<|.bk<|.sr<|.m Z Z<|.a Z Z<|.nt<|.sq<|.fl (trip := [(_,_,_),(_,_,_),(_,_,_),(_,_,_),(_,_,_),(_,_,_),(_,_,_),(_,_,_)]) 8 [(0,0),(1,0),(2,0),(3,0),(4,0),(5,0),(6,0),(7,0)] (by kernel_rfl) (by kernel_rfl) Z<|.m Z Z<|.m Z Z<|.yv (.indexSl Fx.sl78 Z Z Z (by omega) (q := oE + k * 3) Z) Z<|.yv (.loadMW Z Fx.agg96 mE Z) Z<|.m Z Z<|.m Z Z<|.yv (.indexSl Fx.sl78 Z Z Z (by omega) (q := oF + k * 3) Z) Z<|.yv (.loadMW Z Fx.agg96 mF Z) Z<|.fn (tl := [_]) Z<|.yv (.neA Fx.eqt96 Z Z Z) Z<|.nt<|.cd Z (fun h24 => ?_) (fun h24 => ?_)
  ·try simp only [dt] at h24
   have hne : ¬ l = m := fun e => by
    subst e
    rw [hxE] at hxF
    subst hxF
    simp at h24
   refine .sr<|.a Z Z<|.nt<|.rt<|.bR<|.tR<|.tR<|.bR<|.tR<|?_
   refine Sx.ret1 (.inl rfl) rfl (.tmp rfl) fun W s => ⟨retB ?_,s.ext⟩
   first
    | (rw [eqP_iff];exact ⟨fun h => (by cases h),fun h => absurd h hne⟩)
    | (rw [eqP_iff];exact ⟨fun _ => heq,fun _ => rfl⟩)
  try simp only [df] at h24
  have heq : l[k] = m[k] := by
   rw [hxE,hxF]
   rw [vr_eq];have h9 := h24;simp [str_inj] at h9;exact ⟨h9.1,by omega,h9.2.2⟩
  exact .sk<|.bN<|.tN<|.rg<|.yv (.add Z Z (w6 (by omega))) Z<|.m Z Z<|.nt<|.ag (k + 1) ⟨rfl,trivial⟩ ⟨rfl,rfl,rfl,trivial⟩ (fun _ s => s) ⟨by omega,take_eq_succ hk hkm hal heq⟩ (by omega)
 try simp only [df] at h14
 have heq : l = m := by
  have e : k = l.length := by omega
  have e2 : k = m.length := by omega
  have h1 := hal
  rw [e,List.take_length,hlen,List.take_length] at h1
  exact h1
 refine .ex<|.tE<|.tE<|.bE<|.tN<|.sr<|.a Z Z<|.nt<|.rt<|?_
 refine Sx.ret1 (.inl rfl) rfl (.tmp rfl) fun W s => ⟨retB ?_,s.ext⟩
 first
  | (rw [eqP_iff];exact ⟨fun h => (by cases h),fun h => absurd h hne⟩)
  | (rw [eqP_iff];exact ⟨fun _ => heq,fun _ => rfl⟩)
set_option maxRecDepth 100000 in
theorem slEqS (H : Hp) (l m : List Str) (v u : Value) (hs : Rep H (.seq 1 (l.map dStr)) [v]) (ht : Rep H (.seq 1 (m.map dStr)) [u]) (w : World) (hA : Agr H w) :
 Calls Tryz.prog 114 #[v,u] w fun r w' => r = .returned (.bool (eqP (l = m))) ∧ Ext w w' := by
 obtain ⟨p,c,e,_⟩ := hs.sl
 simp only [List.cons.injEq,and_true,List.length_map] at e
 subst e
 obtain ⟨p2,c2,e,_⟩ := ht.sl
 simp only [List.cons.injEq,and_true,List.length_map] at e
 subst e
 have hcap := hs.cap
 have hcap2 := ht.cap
 refine Sx.enter (H := H) Tryz.func114 rfl Tryz.ntmps114 rfl hA ?_
 refine .sr<|.a Z Z<|.nt<|.sq<|.sr<|.m Z Z<|.yv (.lenSl Fx.sl66 Z) Z<|.m Z Z<|.yv (.lenSl Fx.sl66 Z) Z<|.yv (.neq Z Z) Z<|.nt<|.cd Z (fun h10 => ?_) (fun h10 => ?_)
 ·try simp only [dt] at h10
  have hne : ¬ l = m := fun e => by rw [e] at h10;exact h10 rfl
  refine .sr<|.a Z Z<|.nt<|.rt<|.tR<|?_
  refine Sx.ret1 (.inl rfl) rfl (.tmp rfl) fun W s => ⟨retB ?_,s.ext⟩
  first
   | (rw [eqP_iff];exact ⟨fun h => (by cases h),fun h => absurd h hne⟩)
   | (rw [eqP_iff];exact ⟨fun _ => heq,fun _ => rfl⟩)
 try simp only [df] at h10
 have hlen : l.length = m.length := by omega
 refine .sk<|.tN<|.sq<|.sr<|.m Z Z<|.yv (.lenSl Fx.sl66 Z) Z<|.m Z Z<|.nt<|.bk<|.lp (X := Nat) [(0,_),(1,_),(12,_)] ⟨rfl,rfl,rfl,trivial⟩ [] (fun k => [(13,.int .i64 (k : Nat))]) (fun k => H) (fun k => []) (fun k => k ≤ l.length ∧ l.take k = m.take k) (fun k => l.length - k) 0 (fun _ s => s) ⟨rfl,trivial⟩ ⟨by omega,rfl⟩ fun k hC => ?_
 obtain ⟨hk0,hal⟩ := hC
 refine .sr<|.yv (.lss Z Z) Z<|.nt<|.sq<|.cd Z (fun h14 => ?_) (fun h14 => ?_)
 ·try simp only [dt] at h14
  have hk : k < l.length := by omega
  have hkm : k < m.length := by omega
  obtain ⟨bE,oE,cE,hpE,rE,lE,mE⟩ := hs.elem (map_at (f := dStr) hk)
  cases hpE
  generalize hxE : l[k] = xE at rE
  obtain ⟨rfl,_⟩ := str_open rE
  obtain ⟨bF,oF,cF,hpF,rF,lF,mF⟩ := ht.elem (map_at (f := dStr) hkm)
  cases hpF
  generalize hxF : m[k] = xF at rF
  obtain ⟨rfl,_⟩ := str_open rF
  refine .sk<|.tN<|.sq<|.bk<|.sr<|.m Z Z<|.a Z Z<|.nt<|.sq<|.fl (trip := [(_,_,_),(_,_,_),(_,_,_),(_,_,_),(_,_,_),(_,_,_),(_,_,_),(_,_,_)]) 8 [(0,0),(1,0),(2,0),(3,0),(4,0),(5,0),(6,0),(7,0)] (by kernel_rfl) (by kernel_rfl) Z<|.m Z Z<|.m Z Z<|.yv (.indexSl Fx.sl66 Z Z Z (by omega) (q := oE + k * 1) Z) Z<|.yv (.loadM Z Fx.agg9 mE (k := 0) Z Z) Z<|.m Z Z<|.m Z Z<|.yv (.indexSl Fx.sl66 Z Z Z (by omega) (q := oF + k * 1) Z) Z<|.yv (.loadM Z Fx.agg9 mF (k := 0) Z Z) Z<|.fn (tl := [_]) Z<|.yv (.neS Z Z) Z<|.nt<|.cd Z (fun h24 => ?_) (fun h24 => ?_)
  ·try simp only [dt] at h24
   have hne : ¬ l = m := fun e => by
    subst e
    rw [hxE] at hxF
    subst hxF
    simp at h24
   refine .sr<|.a Z Z<|.nt<|.rt<|.bR<|.tR<|.tR<|.bR<|.tR<|?_
   refine Sx.ret1 (.inl rfl) rfl (.tmp rfl) fun W s => ⟨retB ?_,s.ext⟩
   first
    | (rw [eqP_iff];exact ⟨fun h => (by cases h),fun h => absurd h hne⟩)
    | (rw [eqP_iff];exact ⟨fun _ => heq,fun _ => rfl⟩)
  try simp only [df] at h24
  have heq : l[k] = m[k] := by
   rw [hxE,hxF]
   simpa using h24
  exact .sk<|.bN<|.tN<|.rg<|.yv (.add Z Z (w6 (by omega))) Z<|.m Z Z<|.nt<|.ag (k + 1) ⟨rfl,trivial⟩ ⟨rfl,rfl,rfl,trivial⟩ (fun _ s => s) ⟨by omega,take_eq_succ hk hkm hal heq⟩ (by omega)
 try simp only [df] at h14
 have heq : l = m := by
  have e : k = l.length := by omega
  have e2 : k = m.length := by omega
  have h1 := hal
  rw [e,List.take_length,hlen,List.take_length] at h1
  exact h1
 refine .ex<|.tE<|.tE<|.bE<|.tN<|.sr<|.a Z Z<|.nt<|.rt<|?_
 refine Sx.ret1 (.inl rfl) rfl (.tmp rfl) fun W s => ⟨retB ?_,s.ext⟩
 first
  | (rw [eqP_iff];exact ⟨fun h => (by cases h),fun h => absurd h hne⟩)
  | (rw [eqP_iff];exact ⟨fun _ => heq,fun _ => rfl⟩)
theorem Fx.call114 : callN Tryz.prog 114 = Bool.true := by kernel_rfl
theorem Fx.call115 : callN Tryz.prog 115 = Bool.true := by kernel_rfl
theorem Fx.call116 : callN Tryz.prog 116 = Bool.true := by kernel_rfl
theorem hd_eq {a b : Hd} : a = b ↔ a.nm = b.nm ∧ a.ps = b.ps ∧ a.body = b.body := by cases a;cases b;simp
theorem cp_eq {a b : Cp} : a = b ↔ a.nm = b.nm ∧ a.vars = b.vars ∧ a.vers = b.vers := by cases a;cases b;simp
theorem ft_eq {a b : Ft} : a = b ↔ a.nm = b.nm ∧ a.flags = b.flags ∧ a.links = b.links ∧ a.comps = b.comps := by cases a;cases b;simp
set_option maxRecDepth 100000 in
theorem eqFuncS (H : Hp) (gf : FuncId) (hgf : callN Tryz.prog gf = true) (l m : List Sm) (hq : ∀ a ∈ l,∀ b,EqAt gf (dSm .u8) H a b) (v u : Value) (hs : Rep H (.seq 6 (l.map (dSm .u8))) [v]) (ht : Rep H (.seq 6 (m.map (dSm .u8))) [u]) (w : World) (hA : Agr H w) :
 Calls Tryz.prog 115 #[v,u,.func (.func gf) #[] #[]] w fun r w' => r = .returned (.bool (eqP (l = m))) ∧ Ext w w' := by
 obtain ⟨p,c,e,_⟩ := hs.sl
 simp only [List.cons.injEq,and_true,List.length_map] at e
 subst e
 obtain ⟨p2,c2,e,_⟩ := ht.sl
 simp only [List.cons.injEq,and_true,List.length_map] at e
 subst e
 have hcap := hs.cap
 have hcap2 := ht.cap
 refine Sx.enter (H := H) Tryz.func115 rfl Tryz.ntmps115 rfl hA ?_
 refine .sr<|.a Z Z<|.nt<|.sq<|.sr<|.m Z Z<|.yv (.lenSl Fx.sl69 Z) Z<|.m Z Z<|.yv (.lenSl Fx.sl69 Z) Z<|.yv (.neq Z Z) Z<|.nt<|.cd Z (fun h14 => ?_) (fun h14 => ?_)
 ·try simp only [dt] at h14
  have hne : ¬ l = m := fun e => by rw [e] at h14;exact h14 rfl
  refine .sr<|.a Z Z<|.nt<|.rt<|.tR<|?_
  refine Sx.ret1 (.inl rfl) rfl (.tmp rfl) fun W s => ⟨retB ?_,s.ext⟩
  first
   | (rw [eqP_iff];exact ⟨fun h => (by cases h),fun h => absurd h hne⟩)
   | (rw [eqP_iff];exact ⟨fun _ => heq,fun _ => rfl⟩)
 try simp only [df] at h14
 have hlen : l.length = m.length := by omega
 refine .sk<|.tN<|.sq<|.sr<|.m Z Z<|.yv (.lenSl Fx.sl69 Z) Z<|.m Z Z<|.nt<|.bk<|.lp (X := Nat) [(1,_),(2,_),(15,_),(16,_)] ⟨rfl,rfl,rfl,rfl,trivial⟩ [] (fun k => [(17,.int .i64 (k : Nat))]) (fun k => H) (fun k => []) (fun k => k ≤ l.length ∧ l.take k = m.take k) (fun k => l.length - k) 0 (fun _ s => s) ⟨rfl,trivial⟩ ⟨by omega,rfl⟩ fun k hC => ?_
 obtain ⟨hk0,hal⟩ := hC
 refine .sr<|.yv (.lss Z Z) Z<|.nt<|.sq<|.cd Z (fun h18 => ?_) (fun h18 => ?_)
 ·try simp only [dt] at h18
  have hk : k < l.length := by omega
  have hkm : k < m.length := by omega
  obtain ⟨bE,oE,cE,hpE,rE,lE,mE⟩ := hs.elem (map_at hk)
  cases hpE
  obtain ⟨bF,oF,cF,hpF,rF,lF,mF⟩ := ht.elem (map_at hkm)
  cases hpF
  refine .sk<|.tN<|.sq<|.bk<|.sr<|.m Z Z<|.yv (.indexSl Fx.sl69 Z Z Z (by omega) (q := oE + k * 6) Z) Z<|.yv (.loadMW Z Fx.agg71 mE lE) Z<|.al Fx.zero71 Z fun b8 => .a Z Z<|.sV .head Z Z Fx.size71 lE rE.one Z<|.ns<|.m Z Z<|.m Z Z<|.yv (.indexSl Fx.sl69 Z Z Z (by omega) (q := oF + k * 6) Z) Z<|.yv (.loadMW Z Fx.agg71 mF lF) Z<|.al Fx.zero71 Z fun b9 => .sV .head Z Z Fx.size71 lF rF.one Z<|.ns<|.m Z Z<|.yv (.loadW Z Fx.agg71 (.tail _<|.head _) lE) Z<|.yv (.loadW Z Fx.agg71 (.head _) lF) Z<|.yv (.callV (fi := []) (ca := []) Z hgf Z (fun W s => hq _ (List.getElem_mem hk) _ cE cF W rE rF s.agr)) Z<|.yv (.not Z) Z<|.nt<|.cd Z (fun h30 => ?_) (fun h30 => ?_)
  ·try simp only [dt] at h30
   have hne : ¬ l = m := fun e => by subst e;rw [eqP_iff.2 rfl] at h30;cases h30
   refine .sr<|.a Z Z<|.nt<|.rt<|.bR<|.tR<|.tR<|.bR<|.tR<|?_
   refine Sx.ret1 (.inl rfl) rfl (.tmp rfl) fun W s => ⟨retB ?_,s.ext⟩
   first
    | (rw [eqP_iff];exact ⟨fun h => (by cases h),fun h => absurd h hne⟩)
    | (rw [eqP_iff];exact ⟨fun _ => heq,fun _ => rfl⟩)
  try simp only [df] at h30
  have heq : l[k] = m[k] := eqP_iff.1 (by simpa using h30)
  exact .sk<|.bN<|.tN<|.rg<|.yv (.add Z Z (w6 (by omega))) Z<|.m Z Z<|.nt<|.ag (k + 1) ⟨rfl,trivial⟩ ⟨rfl,rfl,rfl,rfl,trivial⟩ (fun _ s => s.pick [] [] Z Z) ⟨by omega,take_eq_succ hk hkm hal heq⟩ (by omega)
 try simp only [df] at h18
 have heq : l = m := by
  have e : k = l.length := by omega
  have e2 : k = m.length := by omega
  have h1 := hal
  rw [e,List.take_length,hlen,List.take_length] at h1
  exact h1
 refine .ex<|.tE<|.tE<|.bE<|.tN<|.sr<|.a Z Z<|.nt<|.rt<|?_
 refine Sx.ret1 (.inl rfl) rfl (.tmp rfl) fun W s => ⟨retB ?_,s.ext⟩
 first
  | (rw [eqP_iff];exact ⟨fun h => (by cases h),fun h => absurd h hne⟩)
  | (rw [eqP_iff];exact ⟨fun _ => heq,fun _ => rfl⟩)
set_option maxRecDepth 100000 in
theorem equalStmt_any (H : Hp) (a : Sm) : ∀ b,EqAt 116 (dSm .u8) H a b := by
 induction a using Sm.ind with | _ kd nm hd ex th el ih1 ih2
 intro b ca cb w ha hb hA
 obtain ⟨kd2,nm2,hd2,ex2,th2,el2⟩ := b
 obtain ⟨p,c,p1,c1,p2,c2,rfl,k1,k2,k3,_,_⟩ := sm_open ha
 obtain ⟨q,d,q1,d1,q2,d2,rfl,g1,g2,g3,_,_⟩ := sm_open hb
 refine Sx.enter (H := H) Tryz.func116 rfl Tryz.ntmps116 rfl hA ?_
 refine .sr<|.bx Z Z Z fun b2 => .bx Z Z Z fun b3 => .a Z Z<|.ns<|.yv (.fieldAddr Z Fx.field71_0) Z<|.yv (.load Z Fx.agg67 (.tail _<|.head _) Z) Z<|.yv (.fieldAddr Z Fx.field71_0) Z<|.yv (.load Z Fx.agg67 (.head _) Z) Z<|.yv (.eql Z Z) Z<|.m Z Z<|.b2 (fun h10 => ?_) (fun h10 => ?_)
 ·try simp only [dt] at h10
  have e1 := UInt8.toNat_inj.1 (by omega : kd.toNat = kd2.toNat)
  refine .gd Z Z<|.yv (.fieldAddr Z Fx.field71_1) Z<|.gd Z Z<|.yv (.load Z Fx.agg9 (.tail _<|.head _) Z) Z<|.gd Z Z<|.yv (.fieldAddr Z Fx.field71_1) Z<|.gd Z Z<|.yv (.load Z Fx.agg9 (.head _) Z) Z<|.gd Z Z<|.yv (.eqS Z Z) Z<|.yv (.pickT Z Z) Z<|.m Z Z<|.b2 (fun h17 => ?_) (fun h17 => ?_)
  ·try simp only [dt] at h17
   have e2 := (id h17 : nm = nm2)
   refine .gd Z Z<|.yv (.fieldAddr Z Fx.field71_2) Z<|.gd Z Z<|.yv (.load Z Fx.agg9 (.tail _<|.head _) Z) Z<|.gd Z Z<|.yv (.fieldAddr Z Fx.field71_2) Z<|.gd Z Z<|.yv (.load Z Fx.agg9 (.head _) Z) Z<|.gd Z Z<|.yv (.eqS Z Z) Z<|.yv (.pickT Z Z) Z<|.m Z Z<|.b2 (fun h24 => ?_) (fun h24 => ?_)
   ·try simp only [dt] at h24
    have e3 := (id h24 : hd = hd2)
    refine .gd Z Z<|.yv (.fieldAddr Z Fx.field71_3) Z<|.gd Z Z<|.yv (.load Z Fx.agg58 (.tail _<|.head _) Z) Z<|.gd Z Z<|.yv (.fieldAddr Z Fx.field71_3) Z<|.gd Z Z<|.yv (.load Z Fx.agg58 (.head _) Z) Z<|.gd Z Z<|.yv (.call Fx.call50 Z (fun W s => eqFuncE H 18 Fx.call18 ex ex2 (fun a _ => equalExpr_any H a) _ _ k1 g1 W s.agr)) Z<|.yv (.pickT Z Z) Z<|.m Z Z<|.b2 (fun h31 => ?_) (fun h31 => ?_)
    ·try simp only [dt] at h31
     have e4 := eqP_iff.1 h31
     refine .gd Z Z<|.yv (.fieldAddr Z Fx.field71_4) Z<|.gd Z Z<|.yv (.load Z Fx.agg69 (.tail _<|.head _) Z) Z<|.gd Z Z<|.yv (.fieldAddr Z Fx.field71_4) Z<|.gd Z Z<|.yv (.load Z Fx.agg69 (.head _) Z) Z<|.gd Z Z<|.yv (.call Fx.call115 Z (fun W s => eqFuncS H 116 Fx.call116 th th2 ih1 _ _ k2 g2 W s.agr)) Z<|.yv (.pickT Z Z) Z<|.m Z Z<|.b2 (fun h38 => ?_) (fun h38 => ?_)
     ·try simp only [dt] at h38
      have e5 := eqP_iff.1 h38
      refine .gd Z Z<|.yv (.fieldAddr Z Fx.field71_5) Z<|.gd Z Z<|.yv (.load Z Fx.agg69 (.tail _<|.head _) Z) Z<|.gd Z Z<|.yv (.fieldAddr Z Fx.field71_5) Z<|.gd Z Z<|.yv (.load Z Fx.agg69 (.head _) Z) Z<|.gd Z Z<|.yv (.call Fx.call115 Z (fun W s => eqFuncS H 116 Fx.call116 el el2 ih2 _ _ k3 g3 W s.agr)) Z<|.yv (.pickT Z Z) Z<|.a Z Z<|.nt<|.rt<|?_
      refine Sx.ret1 (.inl rfl) rfl (.tmp rfl) fun W s => ⟨retB ?_,s.ext⟩
      first
       | (rw [eqP_iff,eqP_iff,Sm.mk.injEq];exact ⟨fun d => ⟨e1,e2,e3,e4,e5,d⟩,fun h => h.2.2.2.2.2⟩)
       | (rw [eqP_iff,Sm.mk.injEq];exact ⟨fun h => (by cases h),fun h => absurd h.1 e1⟩)
       | (rw [eqP_iff,Sm.mk.injEq];exact ⟨fun h => (by cases h),fun h => absurd h.2.1 e2⟩)
       | (rw [eqP_iff,Sm.mk.injEq];exact ⟨fun h => (by cases h),fun h => absurd h.2.2.1 e3⟩)
       | (rw [eqP_iff,Sm.mk.injEq];exact ⟨fun h => (by cases h),fun h => absurd h.2.2.2.1 e4⟩)
       | (rw [eqP_iff,Sm.mk.injEq];exact ⟨fun h => (by cases h),fun h => absurd h.2.2.2.2.1 e5⟩)
     try simp only [df] at h38
     have e5 := eqP_false.1 h38
     refine .gF Z Z Z Z<|.gF Z Z Z Z<|.gF Z Z Z Z<|.gF Z Z Z Z<|.gF Z Z Z Z<|.yv (.pickF Z Z) Z<|.a Z Z<|.nt<|.rt<|?_
     refine Sx.ret1 (.inl rfl) rfl (.tmp rfl) fun W s => ⟨retB ?_,s.ext⟩
     first
      | (rw [eqP_iff,eqP_iff,Sm.mk.injEq];exact ⟨fun d => ⟨e1,e2,e3,e4,e5,d⟩,fun h => h.2.2.2.2.2⟩)
      | (rw [eqP_iff,Sm.mk.injEq];exact ⟨fun h => (by cases h),fun h => absurd h.1 e1⟩)
      | (rw [eqP_iff,Sm.mk.injEq];exact ⟨fun h => (by cases h),fun h => absurd h.2.1 e2⟩)
      | (rw [eqP_iff,Sm.mk.injEq];exact ⟨fun h => (by cases h),fun h => absurd h.2.2.1 e3⟩)
      | (rw [eqP_iff,Sm.mk.injEq];exact ⟨fun h => (by cases h),fun h => absurd h.2.2.2.1 e4⟩)
      | (rw [eqP_iff,Sm.mk.injEq];exact ⟨fun h => (by cases h),fun h => absurd h.2.2.2.2.1 e5⟩)
    try simp only [df] at h31
    have e4 := eqP_false.1 h31
    refine .gF Z Z Z Z<|.gF Z Z Z Z<|.gF Z Z Z Z<|.gF Z Z Z Z<|.gF Z Z Z Z<|.yv (.pickF Z Z) Z<|.m Z Z<|.gF Z Z Z Z<|.gF Z Z Z Z<|.gF Z Z Z Z<|.gF Z Z Z Z<|.gF Z Z Z Z<|.yv (.pickF Z Z) Z<|.a Z Z<|.nt<|.rt<|?_
    refine Sx.ret1 (.inl rfl) rfl (.tmp rfl) fun W s => ⟨retB ?_,s.ext⟩
    first
     | (rw [eqP_iff,eqP_iff,Sm.mk.injEq];exact ⟨fun d => ⟨e1,e2,e3,e4,e5,d⟩,fun h => h.2.2.2.2.2⟩)
     | (rw [eqP_iff,Sm.mk.injEq];exact ⟨fun h => (by cases h),fun h => absurd h.1 e1⟩)
     | (rw [eqP_iff,Sm.mk.injEq];exact ⟨fun h => (by cases h),fun h => absurd h.2.1 e2⟩)
     | (rw [eqP_iff,Sm.mk.injEq];exact ⟨fun h => (by cases h),fun h => absurd h.2.2.1 e3⟩)
     | (rw [eqP_iff,Sm.mk.injEq];exact ⟨fun h => (by cases h),fun h => absurd h.2.2.2.1 e4⟩)
     | (rw [eqP_iff,Sm.mk.injEq];exact ⟨fun h => (by cases h),fun h => absurd h.2.2.2.2.1 e5⟩)
   try simp only [df] at h24
   have e3 := (id h24 : ¬ hd = hd2)
   refine .gF Z Z Z Z<|.gF Z Z Z Z<|.gF Z Z Z Z<|.gF Z Z Z Z<|.gF Z Z Z Z<|.yv (.pickF Z Z) Z<|.m Z Z<|.gF Z Z Z Z<|.gF Z Z Z Z<|.gF Z Z Z Z<|.gF Z Z Z Z<|.gF Z Z Z Z<|.yv (.pickF Z Z) Z<|.m Z Z<|.gF Z Z Z Z<|.gF Z Z Z Z<|.gF Z Z Z Z<|.gF Z Z Z Z<|.gF Z Z Z Z<|.yv (.pickF Z Z) Z<|.a Z Z<|.nt<|.rt<|?_
   refine Sx.ret1 (.inl rfl) rfl (.tmp rfl) fun W s => ⟨retB ?_,s.ext⟩
   first
    | (rw [eqP_iff,eqP_iff,Sm.mk.injEq];exact ⟨fun d => ⟨e1,e2,e3,e4,e5,d⟩,fun h => h.2.2.2.2.2⟩)
    | (rw [eqP_iff,Sm.mk.injEq];exact ⟨fun h => (by cases h),fun h => absurd h.1 e1⟩)
    | (rw [eqP_iff,Sm.mk.injEq];exact ⟨fun h => (by cases h),fun h => absurd h.2.1 e2⟩)
    | (rw [eqP_iff,Sm.mk.injEq];exact ⟨fun h => (by cases h),fun h => absurd h.2.2.1 e3⟩)
    | (rw [eqP_iff,Sm.mk.injEq];exact ⟨fun h => (by cases h),fun h => absurd h.2.2.2.1 e4⟩)
    | (rw [eqP_iff,Sm.mk.injEq];exact ⟨fun h => (by cases h),fun h => absurd h.2.2.2.2.1 e5⟩)
  try simp only [df] at h17
  have e2 := (id h17 : ¬ nm = nm2)
  refine .gF Z Z Z Z<|.gF Z Z Z Z<|.gF Z Z Z Z<|.gF Z Z Z Z<|.gF Z Z Z Z<|.yv (.pickF Z Z) Z<|.m Z Z<|.gF Z Z Z Z<|.gF Z Z Z Z<|.gF Z Z Z Z<|.gF Z Z Z Z<|.gF Z Z Z Z<|.yv (.pickF Z Z) Z<|.m Z Z<|.gF Z Z Z Z<|.gF Z Z Z Z<|.gF Z Z Z Z<|.gF Z Z Z Z<|.gF Z Z Z Z<|.yv (.pickF Z Z) Z<|.m Z Z<|.gF Z Z Z Z<|.gF Z Z Z Z<|.gF Z Z Z Z<|.gF Z Z Z Z<|.gF Z Z Z Z<|.yv (.pickF Z Z) Z<|.a Z Z<|.nt<|.rt<|?_
  refine Sx.ret1 (.inl rfl) rfl (.tmp rfl) fun W s => ⟨retB ?_,s.ext⟩
  first
   | (rw [eqP_iff,eqP_iff,Sm.mk.injEq];exact ⟨fun d => ⟨e1,e2,e3,e4,e5,d⟩,fun h => h.2.2.2.2.2⟩)
   | (rw [eqP_iff,Sm.mk.injEq];exact ⟨fun h => (by cases h),fun h => absurd h.1 e1⟩)
   | (rw [eqP_iff,Sm.mk.injEq];exact ⟨fun h => (by cases h),fun h => absurd h.2.1 e2⟩)
   | (rw [eqP_iff,Sm.mk.injEq];exact ⟨fun h => (by cases h),fun h => absurd h.2.2.1 e3⟩)
   | (rw [eqP_iff,Sm.mk.injEq];exact ⟨fun h => (by cases h),fun h => absurd h.2.2.2.1 e4⟩)
   | (rw [eqP_iff,Sm.mk.injEq];exact ⟨fun h => (by cases h),fun h => absurd h.2.2.2.2.1 e5⟩)
 try simp only [df] at h10
 have e1 := (fun e => h10 (by rw [e]) : ¬ kd = kd2)
 refine .gF Z Z Z Z<|.gF Z Z Z Z<|.gF Z Z Z Z<|.gF Z Z Z Z<|.gF Z Z Z Z<|.yv (.pickF Z Z) Z<|.m Z Z<|.gF Z Z Z Z<|.gF Z Z Z Z<|.gF Z Z Z Z<|.gF Z Z Z Z<|.gF Z Z Z Z<|.yv (.pickF Z Z) Z<|.m Z Z<|.gF Z Z Z Z<|.gF Z Z Z Z<|.gF Z Z Z Z<|.gF Z Z Z Z<|.gF Z Z Z Z<|.yv (.pickF Z Z) Z<|.m Z Z<|.gF Z Z Z Z<|.gF Z Z Z Z<|.gF Z Z Z Z<|.gF Z Z Z Z<|.gF Z Z Z Z<|.yv (.pickF Z Z) Z<|.m Z Z<|.gF Z Z Z Z<|.gF Z Z Z Z<|.gF Z Z Z Z<|.gF Z Z Z Z<|.gF Z Z Z Z<|.yv (.pickF Z Z) Z<|.a Z Z<|.nt<|.rt<|?_
 refine Sx.ret1 (.inl rfl) rfl (.tmp rfl) fun W s => ⟨retB ?_,s.ext⟩
 first
  | (rw [eqP_iff,eqP_iff,Sm.mk.injEq];exact ⟨fun d => ⟨e1,e2,e3,e4,e5,d⟩,fun h => h.2.2.2.2.2⟩)
  | (rw [eqP_iff,Sm.mk.injEq];exact ⟨fun h => (by cases h),fun h => absurd h.1 e1⟩)
  | (rw [eqP_iff,Sm.mk.injEq];exact ⟨fun h => (by cases h),fun h => absurd h.2.1 e2⟩)
  | (rw [eqP_iff,Sm.mk.injEq];exact ⟨fun h => (by cases h),fun h => absurd h.2.2.1 e3⟩)
  | (rw [eqP_iff,Sm.mk.injEq];exact ⟨fun h => (by cases h),fun h => absurd h.2.2.2.1 e4⟩)
  | (rw [eqP_iff,Sm.mk.injEq];exact ⟨fun h => (by cases h),fun h => absurd h.2.2.2.2.1 e5⟩)
set_option maxRecDepth 100000 in
theorem eqFuncH (H : Hp) (gf : FuncId) (hgf : callN Tryz.prog gf = true) (l m : List Hd) (hq : ∀ a ∈ l,∀ b,EqAt gf (dHd .u8) H a b) (v u : Value) (hs : Rep H (.seq 3 (l.map (dHd .u8))) [v]) (ht : Rep H (.seq 3 (m.map (dHd .u8))) [u]) (w : World) (hA : Agr H w) :
 Calls Tryz.prog 83 #[v,u,.func (.func gf) #[] #[]] w fun r w' => r = .returned (.bool (eqP (l = m))) ∧ Ext w w' := by
 obtain ⟨p,c,e,_⟩ := hs.sl
 simp only [List.cons.injEq,and_true,List.length_map] at e
 subst e
 obtain ⟨p2,c2,e,_⟩ := ht.sl
 simp only [List.cons.injEq,and_true,List.length_map] at e
 subst e
 have hcap := hs.cap
 have hcap2 := ht.cap
 refine Sx.enter (H := H) Tryz.func83 rfl Tryz.ntmps83 rfl hA ?_
 refine .sr<|.a Z Z<|.nt<|.sq<|.sr<|.m Z Z<|.yv (.lenSl Fx.sl74 Z) Z<|.m Z Z<|.yv (.lenSl Fx.sl74 Z) Z<|.yv (.neq Z Z) Z<|.nt<|.cd Z (fun h14 => ?_) (fun h14 => ?_)
 ·try simp only [dt] at h14
  have hne : ¬ l = m := fun e => by rw [e] at h14;exact h14 rfl
  refine .sr<|.a Z Z<|.nt<|.rt<|.tR<|?_
  refine Sx.ret1 (.inl rfl) rfl (.tmp rfl) fun W s => ⟨retB ?_,s.ext⟩
  first
   | (rw [eqP_iff];exact ⟨fun h => (by cases h),fun h => absurd h hne⟩)
   | (rw [eqP_iff];exact ⟨fun _ => heq,fun _ => rfl⟩)
 try simp only [df] at h14
 have hlen : l.length = m.length := by omega
 refine .sk<|.tN<|.sq<|.sr<|.m Z Z<|.yv (.lenSl Fx.sl74 Z) Z<|.m Z Z<|.nt<|.bk<|.lp (X := Nat) [(1,_),(2,_),(15,_),(16,_)] ⟨rfl,rfl,rfl,rfl,trivial⟩ [] (fun k => [(17,.int .i64 (k : Nat))]) (fun k => H) (fun k => []) (fun k => k ≤ l.length ∧ l.take k = m.take k) (fun k => l.length - k) 0 (fun _ s => s) ⟨rfl,trivial⟩ ⟨by omega,rfl⟩ fun k hC => ?_
 obtain ⟨hk0,hal⟩ := hC
 refine .sr<|.yv (.lss Z Z) Z<|.nt<|.sq<|.cd Z (fun h18 => ?_) (fun h18 => ?_)
 ·try simp only [dt] at h18
  have hk : k < l.length := by omega
  have hkm : k < m.length := by omega
  obtain ⟨bE,oE,cE,hpE,rE,lE,mE⟩ := hs.elem (map_at hk)
  cases hpE
  obtain ⟨bF,oF,cF,hpF,rF,lF,mF⟩ := ht.elem (map_at hkm)
  cases hpF
  refine .sk<|.tN<|.sq<|.bk<|.sr<|.m Z Z<|.yv (.indexSl Fx.sl74 Z Z Z (by omega) (q := oE + k * 3) Z) Z<|.yv (.loadMW Z Fx.agg73 mE lE) Z<|.al Fx.zero73 Z fun b8 => .a Z Z<|.sV .head Z Z Fx.size73 lE rE.one Z<|.ns<|.m Z Z<|.m Z Z<|.yv (.indexSl Fx.sl74 Z Z Z (by omega) (q := oF + k * 3) Z) Z<|.yv (.loadMW Z Fx.agg73 mF lF) Z<|.al Fx.zero73 Z fun b9 => .sV .head Z Z Fx.size73 lF rF.one Z<|.ns<|.m Z Z<|.yv (.loadW Z Fx.agg73 (.tail _<|.head _) lE) Z<|.yv (.loadW Z Fx.agg73 (.head _) lF) Z<|.yv (.callV (fi := []) (ca := []) Z hgf Z (fun W s => hq _ (List.getElem_mem hk) _ cE cF W rE rF s.agr)) Z<|.yv (.not Z) Z<|.nt<|.cd Z (fun h30 => ?_) (fun h30 => ?_)
  ·try simp only [dt] at h30
   have hne : ¬ l = m := fun e => by subst e;rw [eqP_iff.2 rfl] at h30;cases h30
   refine .sr<|.a Z Z<|.nt<|.rt<|.bR<|.tR<|.tR<|.bR<|.tR<|?_
   refine Sx.ret1 (.inl rfl) rfl (.tmp rfl) fun W s => ⟨retB ?_,s.ext⟩
   first
    | (rw [eqP_iff];exact ⟨fun h => (by cases h),fun h => absurd h hne⟩)
    | (rw [eqP_iff];exact ⟨fun _ => heq,fun _ => rfl⟩)
  try simp only [df] at h30
  have heq : l[k] = m[k] := eqP_iff.1 (by simpa using h30)
  exact .sk<|.bN<|.tN<|.rg<|.yv (.add Z Z (w6 (by omega))) Z<|.m Z Z<|.nt<|.ag (k + 1) ⟨rfl,trivial⟩ ⟨rfl,rfl,rfl,rfl,trivial⟩ (fun _ s => s.pick [] [] Z Z) ⟨by omega,take_eq_succ hk hkm hal heq⟩ (by omega)
 try simp only [df] at h18
 have heq : l = m := by
  have e : k = l.length := by omega
  have e2 : k = m.length := by omega
  have h1 := hal
  rw [e,List.take_length,hlen,List.take_length] at h1
  exact h1
 refine .ex<|.tE<|.tE<|.bE<|.tN<|.sr<|.a Z Z<|.nt<|.rt<|?_
 refine Sx.ret1 (.inl rfl) rfl (.tmp rfl) fun W s => ⟨retB ?_,s.ext⟩
 first
  | (rw [eqP_iff];exact ⟨fun h => (by cases h),fun h => absurd h hne⟩)
  | (rw [eqP_iff];exact ⟨fun _ => heq,fun _ => rfl⟩)
set_option maxRecDepth 100000 in
theorem equalHandler_any (H : Hp) (a b : Hd) : EqAt 84 (dHd .u8) H a b := by
 intro ca cb w ha hb hA
 obtain ⟨p1,c1,p2,c2,rfl,_,k1,k2⟩ := hd_open ha
 obtain ⟨q1,d1,q2,d2,rfl,_,g1,g2⟩ := hd_open hb
 refine Sx.enter (H := H) Tryz.func84 rfl Tryz.ntmps84 rfl hA ?_
 refine .sr<|.bx Z Z Z fun b2 => .bx Z Z Z fun b3 => .a Z Z<|.ns<|.yv (.fieldAddr Z Fx.field73_0) Z<|.yv (.load Z Fx.agg9 (.tail _<|.head _) Z) Z<|.yv (.fieldAddr Z Fx.field73_0) Z<|.yv (.load Z Fx.agg9 (.head _) Z) Z<|.yv (.eqS Z Z) Z<|.m Z Z<|.b2 (fun h10 => ?_) (fun h10 => ?_)
 ·try simp only [dt] at h10
  have e1 := (id h10 : a.nm = b.nm)
  refine .gd Z Z<|.yv (.fieldAddr Z Fx.field73_1) Z<|.gd Z Z<|.yv (.load Z Fx.agg66 (.tail _<|.head _) Z) Z<|.gd Z Z<|.yv (.fieldAddr Z Fx.field73_1) Z<|.gd Z Z<|.yv (.load Z Fx.agg66 (.head _) Z) Z<|.gd Z Z<|.yv (.call Fx.call114 Z (fun W s => slEqS H a.ps b.ps _ _ k1 g1 W s.agr)) Z<|.yv (.pickT Z Z) Z<|.m Z Z<|.b2 (fun h17 => ?_) (fun h17 => ?_)
  ·try simp only [dt] at h17
   have e2 := eqP_iff.1 h17
   refine .gd Z Z<|.yv (.fieldAddr Z Fx.field73_2) Z<|.gd Z Z<|.yv (.load Z Fx.agg69 (.tail _<|.head _) Z) Z<|.gd Z Z<|.yv (.fieldAddr Z Fx.field73_2) Z<|.gd Z Z<|.yv (.load Z Fx.agg69 (.head _) Z) Z<|.gd Z Z<|.yv (.call Fx.call115 Z (fun W s => eqFuncS H 116 Fx.call116 a.body b.body (fun x _ => equalStmt_any H x) _ _ k2 g2 W s.agr)) Z<|.yv (.pickT Z Z) Z<|.a Z Z<|.nt<|.rt<|?_
   refine Sx.ret1 (.inl rfl) rfl (.tmp rfl) fun W s => ⟨retB ?_,s.ext⟩
   first
    | (rw [eqP_iff,eqP_iff,hd_eq];exact ⟨fun d => ⟨e1,e2,d⟩,fun h => h.2.2⟩)
    | (rw [eqP_iff,hd_eq];exact ⟨fun h => (by cases h),fun h => absurd h.1 e1⟩)
    | (rw [eqP_iff,hd_eq];exact ⟨fun h => (by cases h),fun h => absurd h.2.1 e2⟩)
  try simp only [df] at h17
  have e2 := eqP_false.1 h17
  refine .gF Z Z Z Z<|.gF Z Z Z Z<|.gF Z Z Z Z<|.gF Z Z Z Z<|.gF Z Z Z Z<|.yv (.pickF Z Z) Z<|.a Z Z<|.nt<|.rt<|?_
  refine Sx.ret1 (.inl rfl) rfl (.tmp rfl) fun W s => ⟨retB ?_,s.ext⟩
  first
   | (rw [eqP_iff,eqP_iff,hd_eq];exact ⟨fun d => ⟨e1,e2,d⟩,fun h => h.2.2⟩)
   | (rw [eqP_iff,hd_eq];exact ⟨fun h => (by cases h),fun h => absurd h.1 e1⟩)
   | (rw [eqP_iff,hd_eq];exact ⟨fun h => (by cases h),fun h => absurd h.2.1 e2⟩)
 try simp only [df] at h10
 have e1 := (id h10 : ¬ a.nm = b.nm)
 refine .gF Z Z Z Z<|.gF Z Z Z Z<|.gF Z Z Z Z<|.gF Z Z Z Z<|.gF Z Z Z Z<|.yv (.pickF Z Z) Z<|.m Z Z<|.gF Z Z Z Z<|.gF Z Z Z Z<|.gF Z Z Z Z<|.gF Z Z Z Z<|.gF Z Z Z Z<|.yv (.pickF Z Z) Z<|.a Z Z<|.nt<|.rt<|?_
 refine Sx.ret1 (.inl rfl) rfl (.tmp rfl) fun W s => ⟨retB ?_,s.ext⟩
 first
  | (rw [eqP_iff,eqP_iff,hd_eq];exact ⟨fun d => ⟨e1,e2,d⟩,fun h => h.2.2⟩)
  | (rw [eqP_iff,hd_eq];exact ⟨fun h => (by cases h),fun h => absurd h.1 e1⟩)
  | (rw [eqP_iff,hd_eq];exact ⟨fun h => (by cases h),fun h => absurd h.2.1 e2⟩)
theorem Fx.call44 : callN Tryz.prog 44 = Bool.true := by kernel_rfl
theorem Fx.call45 : callN Tryz.prog 45 = Bool.true := by kernel_rfl
theorem Fx.call46 : callN Tryz.prog 46 = Bool.true := by kernel_rfl
theorem Fx.call47 : callN Tryz.prog 47 = Bool.true := by kernel_rfl
theorem Fx.call80 : callN Tryz.prog 80 = Bool.true := by kernel_rfl
theorem Fx.call81 : callN Tryz.prog 81 = Bool.true := by kernel_rfl
theorem Fx.call82 : callN Tryz.prog 82 = Bool.true := by kernel_rfl
theorem Fx.call83 : callN Tryz.prog 83 = Bool.true := by kernel_rfl
theorem Fx.call84 : callN Tryz.prog 84 = Bool.true := by kernel_rfl
set_option maxRecDepth 100000 in
theorem eqFuncV (H : Hp) (gf : FuncId) (hgf : callN Tryz.prog gf = true) (l m : List (List Hd)) (hq : ∀ a ∈ l,∀ b,EqAt gf (dVs .u8) H a b) (v u : Value) (hs : Rep H (.seq 1 (l.map (dVs .u8))) [v]) (ht : Rep H (.seq 1 (m.map (dVs .u8))) [u]) (w : World) (hA : Agr H w) :
 Calls Tryz.prog 81 #[v,u,.func (.func gf) #[] #[]] w fun r w' => r = .returned (.bool (eqP (l = m))) ∧ Ext w w' := by
 obtain ⟨p,c,e,_⟩ := hs.sl
 simp only [List.cons.injEq,and_true,List.length_map] at e
 subst e
 obtain ⟨p2,c2,e,_⟩ := ht.sl
 simp only [List.cons.injEq,and_true,List.length_map] at e
 subst e
 have hcap := hs.cap
 have hcap2 := ht.cap
 refine Sx.enter (H := H) Tryz.func81 rfl Tryz.ntmps81 rfl hA ?_
 refine .sr<|.a Z Z<|.nt<|.sq<|.sr<|.m Z Z<|.yv (.lenSl Fx.sl77 Z) Z<|.m Z Z<|.yv (.lenSl Fx.sl77 Z) Z<|.yv (.neq Z Z) Z<|.nt<|.cd Z (fun h14 => ?_) (fun h14 => ?_)
 ·try simp only [dt] at h14
  have hne : ¬ l = m := fun e => by rw [e] at h14;exact h14 rfl
  refine .sr<|.a Z Z<|.nt<|.rt<|.tR<|?_
  refine Sx.ret1 (.inl rfl) rfl (.tmp rfl) fun W s => ⟨retB ?_,s.ext⟩
  first
   | (rw [eqP_iff];exact ⟨fun h => (by cases h),fun h => absurd h hne⟩)
   | (rw [eqP_iff];exact ⟨fun _ => heq,fun _ => rfl⟩)
 try simp only [df] at h14
 have hlen : l.length = m.length := by omega
 refine .sk<|.tN<|.sq<|.sr<|.m Z Z<|.yv (.lenSl Fx.sl77 Z) Z<|.m Z Z<|.nt<|.bk<|.lp (X := Nat) [(1,_),(2,_),(15,_),(16,_)] ⟨rfl,rfl,rfl,rfl,trivial⟩ [] (fun k => [(17,.int .i64 (k : Nat))]) (fun k => H) (fun k => []) (fun k => k ≤ l.length ∧ l.take k = m.take k) (fun k => l.length - k) 0 (fun _ s => s) ⟨rfl,trivial⟩ ⟨by omega,rfl⟩ fun k hC => ?_
 obtain ⟨hk0,hal⟩ := hC
 refine .sr<|.yv (.lss Z Z) Z<|.nt<|.sq<|.cd Z (fun h18 => ?_) (fun h18 => ?_)
 ·try simp only [dt] at h18
  have hk : k < l.length := by omega
  have hkm : k < m.length := by omega
  obtain ⟨bE,oE,cE,hpE,rE,lE,mE⟩ := hs.elem (map_at hk)
  cases hpE
  obtain ⟨bF,oF,cF,hpF,rF,lF,mF⟩ := ht.elem (map_at hkm)
  cases hpF
  refine .sk<|.tN<|.sq<|.bk<|.sr<|.m Z Z<|.yv (.indexSl Fx.sl77 Z Z Z (by omega) (q := oE + k * 1) Z) Z<|.yv (.loadMW Z Fx.agg76 mE lE) Z<|.al Fx.zero76 Z fun b8 => .a Z Z<|.sV .head Z Z Fx.size76 lE rE.one Z<|.ns<|.m Z Z<|.m Z Z<|.yv (.indexSl Fx.sl77 Z Z Z (by omega) (q := oF + k * 1) Z) Z<|.yv (.loadMW Z Fx.agg76 mF lF) Z<|.al Fx.zero76 Z fun b9 => .sV .head Z Z Fx.size76 lF rF.one Z<|.ns<|.m Z Z<|.yv (.loadW Z Fx.agg76 (.tail _<|.head _) lE) Z<|.yv (.loadW Z Fx.agg76 (.head _) lF) Z<|.yv (.callV (fi := []) (ca := []) Z hgf Z (fun W s => hq _ (List.getElem_mem hk) _ cE cF W rE rF s.agr)) Z<|.yv (.not Z) Z<|.nt<|.cd Z (fun h30 => ?_) (fun h30 => ?_)
  ·try simp only [dt] at h30
   have hne : ¬ l = m := fun e => by subst e;rw [eqP_iff.2 rfl] at h30;cases h30
   refine .sr<|.a Z Z<|.nt<|.rt<|.bR<|.tR<|.tR<|.bR<|.tR<|?_
   refine Sx.ret1 (.inl rfl) rfl (.tmp rfl) fun W s => ⟨retB ?_,s.ext⟩
   first
    | (rw [eqP_iff];exact ⟨fun h => (by cases h),fun h => absurd h hne⟩)
    | (rw [eqP_iff];exact ⟨fun _ => heq,fun _ => rfl⟩)
  try simp only [df] at h30
  have heq : l[k] = m[k] := eqP_iff.1 (by simpa using h30)
  exact .sk<|.bN<|.tN<|.rg<|.yv (.add Z Z (w6 (by omega))) Z<|.m Z Z<|.nt<|.ag (k + 1) ⟨rfl,trivial⟩ ⟨rfl,rfl,rfl,rfl,trivial⟩ (fun _ s => s.pick [] [] Z Z) ⟨by omega,take_eq_succ hk hkm hal heq⟩ (by omega)
 try simp only [df] at h18
 have heq : l = m := by
  have e : k = l.length := by omega
  have e2 : k = m.length := by omega
  have h1 := hal
  rw [e,List.take_length,hlen,List.take_length] at h1
  exact h1
 refine .ex<|.tE<|.tE<|.bE<|.tN<|.sr<|.a Z Z<|.nt<|.rt<|?_
 refine Sx.ret1 (.inl rfl) rfl (.tmp rfl) fun W s => ⟨retB ?_,s.ext⟩
 first
  | (rw [eqP_iff];exact ⟨fun h => (by cases h),fun h => absurd h hne⟩)
  | (rw [eqP_iff];exact ⟨fun _ => heq,fun _ => rfl⟩)
set_option maxRecDepth 100000 in
theorem equalVersion_any (H : Hp) (a b : List Hd) : EqAt 82 (dVs .u8) H a b := by
 intro ca cb w ha hb hA
 obtain ⟨p1,c1,rfl,k1⟩ := vs_open ha
 obtain ⟨q1,d1,rfl,g1⟩ := vs_open hb
 refine Sx.enter (H := H) Tryz.func82 rfl Tryz.ntmps82 rfl hA ?_
 refine .sr<|.bx Z Z Z fun b2 => .bx Z Z Z fun b3 => .a Z Z<|.ns<|.yv (.fieldAddr Z Fx.field76_0) Z<|.yv (.load Z Fx.agg74 (.tail _<|.head _) Z) Z<|.yv (.fieldAddr Z Fx.field76_0) Z<|.yv (.load Z Fx.agg74 (.head _) Z) Z<|.yv (.call Fx.call83 Z (fun W s => eqFuncH H 84 Fx.call84 a b (fun x _ => equalHandler_any H x) _ _ k1 g1 W s.agr)) Z<|.a Z Z<|.nt<|.rt<|?_
 exact Sx.ret1 (.inl rfl) rfl (.tmp rfl) fun W s => ⟨rfl,s.ext⟩
set_option maxRecDepth 100000 in
theorem equalComponent_any (H : Hp) (a b : Cp) : EqAt 47 (dCp .u8) H a b := by
 intro ca cb w ha hb hA
 obtain ⟨p1,c1,p2,c2,rfl,_,k1,k2⟩ := cp_open ha
 obtain ⟨q1,d1,q2,d2,rfl,_,g1,g2⟩ := cp_open hb
 refine Sx.enter (H := H) Tryz.func47 rfl Tryz.ntmps47 rfl hA ?_
 refine .sr<|.bx Z Z Z fun b2 => .bx Z Z Z fun b3 => .a Z Z<|.ns<|.yv (.fieldAddr Z Fx.field80_0) Z<|.yv (.load Z Fx.agg9 (.tail _<|.head _) Z) Z<|.yv (.fieldAddr Z Fx.field80_0) Z<|.yv (.load Z Fx.agg9 (.head _) Z) Z<|.yv (.eqS Z Z) Z<|.m Z Z<|.b2 (fun h10 => ?_) (fun h10 => ?_)
 ·try simp only [dt] at h10
  have e1 := (id h10 : a.nm = b.nm)
  refine .gd Z Z<|.yv (.fieldAddr Z Fx.field80_1) Z<|.gd Z Z<|.yv (.load Z Fx.agg78 (.tail _<|.head _) Z) Z<|.gd Z Z<|.yv (.fieldAddr Z Fx.field80_1) Z<|.gd Z Z<|.yv (.load Z Fx.agg78 (.head _) Z) Z<|.gd Z Z<|.yv (.call Fx.call80 Z (fun W s => slEqV H a.vars b.vars _ _ k1 g1 W s.agr)) Z<|.yv (.pickT Z Z) Z<|.m Z Z<|.b2 (fun h17 => ?_) (fun h17 => ?_)
  ·try simp only [dt] at h17
   have e2 := eqP_iff.1 h17
   refine .gd Z Z<|.yv (.fieldAddr Z Fx.field80_2) Z<|.gd Z Z<|.yv (.load Z Fx.agg77 (.tail _<|.head _) Z) Z<|.gd Z Z<|.yv (.fieldAddr Z Fx.field80_2) Z<|.gd Z Z<|.yv (.load Z Fx.agg77 (.head _) Z) Z<|.gd Z Z<|.yv (.call Fx.call81 Z (fun W s => eqFuncV H 82 Fx.call82 a.vers b.vers (fun x _ => equalVersion_any H x) _ _ k2 g2 W s.agr)) Z<|.yv (.pickT Z Z) Z<|.a Z Z<|.nt<|.rt<|?_
   refine Sx.ret1 (.inl rfl) rfl (.tmp rfl) fun W s => ⟨retB ?_,s.ext⟩
   first
    | (rw [eqP_iff,eqP_iff,cp_eq];exact ⟨fun d => ⟨e1,e2,d⟩,fun h => h.2.2⟩)
    | (rw [eqP_iff,cp_eq];exact ⟨fun h => (by cases h),fun h => absurd h.1 e1⟩)
    | (rw [eqP_iff,cp_eq];exact ⟨fun h => (by cases h),fun h => absurd h.2.1 e2⟩)
  try simp only [df] at h17
  have e2 := eqP_false.1 h17
  refine .gF Z Z Z Z<|.gF Z Z Z Z<|.gF Z Z Z Z<|.gF Z Z Z Z<|.gF Z Z Z Z<|.yv (.pickF Z Z) Z<|.a Z Z<|.nt<|.rt<|?_
  refine Sx.ret1 (.inl rfl) rfl (.tmp rfl) fun W s => ⟨retB ?_,s.ext⟩
  first
   | (rw [eqP_iff,eqP_iff,cp_eq];exact ⟨fun d => ⟨e1,e2,d⟩,fun h => h.2.2⟩)
   | (rw [eqP_iff,cp_eq];exact ⟨fun h => (by cases h),fun h => absurd h.1 e1⟩)
   | (rw [eqP_iff,cp_eq];exact ⟨fun h => (by cases h),fun h => absurd h.2.1 e2⟩)
 try simp only [df] at h10
 have e1 := (id h10 : ¬ a.nm = b.nm)
 refine .gF Z Z Z Z<|.gF Z Z Z Z<|.gF Z Z Z Z<|.gF Z Z Z Z<|.gF Z Z Z Z<|.yv (.pickF Z Z) Z<|.m Z Z<|.gF Z Z Z Z<|.gF Z Z Z Z<|.gF Z Z Z Z<|.gF Z Z Z Z<|.gF Z Z Z Z<|.yv (.pickF Z Z) Z<|.a Z Z<|.nt<|.rt<|?_
 refine Sx.ret1 (.inl rfl) rfl (.tmp rfl) fun W s => ⟨retB ?_,s.ext⟩
 first
  | (rw [eqP_iff,eqP_iff,cp_eq];exact ⟨fun d => ⟨e1,e2,d⟩,fun h => h.2.2⟩)
  | (rw [eqP_iff,cp_eq];exact ⟨fun h => (by cases h),fun h => absurd h.1 e1⟩)
  | (rw [eqP_iff,cp_eq];exact ⟨fun h => (by cases h),fun h => absurd h.2.1 e2⟩)
set_option maxRecDepth 100000 in
theorem eqFuncC (H : Hp) (gf : FuncId) (hgf : callN Tryz.prog gf = true) (l m : List Cp) (hq : ∀ a ∈ l,∀ b,EqAt gf (dCp .u8) H a b) (v u : Value) (hs : Rep H (.seq 3 (l.map (dCp .u8))) [v]) (ht : Rep H (.seq 3 (m.map (dCp .u8))) [u]) (w : World) (hA : Agr H w) :
 Calls Tryz.prog 46 #[v,u,.func (.func gf) #[] #[]] w fun r w' => r = .returned (.bool (eqP (l = m))) ∧ Ext w w' := by
 obtain ⟨p,c,e,_⟩ := hs.sl
 simp only [List.cons.injEq,and_true,List.length_map] at e
 subst e
 obtain ⟨p2,c2,e,_⟩ := ht.sl
 simp only [List.cons.injEq,and_true,List.length_map] at e
 subst e
 have hcap := hs.cap
 have hcap2 := ht.cap
 refine Sx.enter (H := H) Tryz.func46 rfl Tryz.ntmps46 rfl hA ?_
 refine .sr<|.a Z Z<|.nt<|.sq<|.sr<|.m Z Z<|.yv (.lenSl Fx.sl38 Z) Z<|.m Z Z<|.yv (.lenSl Fx.sl38 Z) Z<|.yv (.neq Z Z) Z<|.nt<|.cd Z (fun h14 => ?_) (fun h14 => ?_)
 ·try simp only [dt] at h14
  have hne : ¬ l = m := fun e => by rw [e] at h14;exact h14 rfl
  refine .sr<|.a Z Z<|.nt<|.rt<|.tR<|?_
  refine Sx.ret1 (.inl rfl) rfl (.tmp rfl) fun W s => ⟨retB ?_,s.ext⟩
  first
   | (rw [eqP_iff];exact ⟨fun h => (by cases h),fun h => absurd h hne⟩)
   | (rw [eqP_iff];exact ⟨fun _ => heq,fun _ => rfl⟩)
 try simp only [df] at h14
 have hlen : l.length = m.length := by omega
 refine .sk<|.tN<|.sq<|.sr<|.m Z Z<|.yv (.lenSl Fx.sl38 Z) Z<|.m Z Z<|.nt<|.bk<|.lp (X := Nat) [(1,_),(2,_),(15,_),(16,_)] ⟨rfl,rfl,rfl,rfl,trivial⟩ [] (fun k => [(17,.int .i64 (k : Nat))]) (fun k => H) (fun k => []) (fun k => k ≤ l.length ∧ l.take k = m.take k) (fun k => l.length - k) 0 (fun _ s => s) ⟨rfl,trivial⟩ ⟨by omega,rfl⟩ fun k hC => ?_
 obtain ⟨hk0,hal⟩ := hC
 refine .sr<|.yv (.lss Z Z) Z<|.nt<|.sq<|.cd Z (fun h18 => ?_) (fun h18 => ?_)
 ·try simp only [dt] at h18
  have hk : k < l.length := by omega
  have hkm : k < m.length := by omega
  obtain ⟨bE,oE,cE,hpE,rE,lE,mE⟩ := hs.elem (map_at hk)
  cases hpE
  obtain ⟨bF,oF,cF,hpF,rF,lF,mF⟩ := ht.elem (map_at hkm)
  cases hpF
  refine .sk<|.tN<|.sq<|.bk<|.sr<|.m Z Z<|.yv (.indexSl Fx.sl38 Z Z Z (by omega) (q := oE + k * 3) Z) Z<|.yv (.loadMW Z Fx.agg80 mE lE) Z<|.al Fx.zero80 Z fun b8 => .a Z Z<|.sV .head Z Z Fx.size80 lE rE.one Z<|.ns<|.m Z Z<|.m Z Z<|.yv (.indexSl Fx.sl38 Z Z Z (by omega) (q := oF + k * 3) Z) Z<|.yv (.loadMW Z Fx.agg80 mF lF) Z<|.al Fx.zero80 Z fun b9 => .sV .head Z Z Fx.size80 lF rF.one Z<|.ns<|.m Z Z<|.yv (.loadW Z Fx.agg80 (.tail _<|.head _) lE) Z<|.yv (.loadW Z Fx.agg80 (.head _) lF) Z<|.yv (.callV (fi := []) (ca := []) Z hgf Z (fun W s => hq _ (List.getElem_mem hk) _ cE cF W rE rF s.agr)) Z<|.yv (.not Z) Z<|.nt<|.cd Z (fun h30 => ?_) (fun h30 => ?_)
  ·try simp only [dt] at h30
   have hne : ¬ l = m := fun e => by subst e;rw [eqP_iff.2 rfl] at h30;cases h30
   refine .sr<|.a Z Z<|.nt<|.rt<|.bR<|.tR<|.tR<|.bR<|.tR<|?_
   refine Sx.ret1 (.inl rfl) rfl (.tmp rfl) fun W s => ⟨retB ?_,s.ext⟩
   first
    | (rw [eqP_iff];exact ⟨fun h => (by cases h),fun h => absurd h hne⟩)
    | (rw [eqP_iff];exact ⟨fun _ => heq,fun _ => rfl⟩)
  try simp only [df] at h30
  have heq : l[k] = m[k] := eqP_iff.1 (by simpa using h30)
  exact .sk<|.bN<|.tN<|.rg<|.yv (.add Z Z (w6 (by omega))) Z<|.m Z Z<|.nt<|.ag (k + 1) ⟨rfl,trivial⟩ ⟨rfl,rfl,rfl,rfl,trivial⟩ (fun _ s => s.pick [] [] Z Z) ⟨by omega,take_eq_succ hk hkm hal heq⟩ (by omega)
 try simp only [df] at h18
 have heq : l = m := by
  have e : k = l.length := by omega
  have e2 : k = m.length := by omega
  have h1 := hal
  rw [e,List.take_length,hlen,List.take_length] at h1
  exact h1
 refine .ex<|.tE<|.tE<|.bE<|.tN<|.sr<|.a Z Z<|.nt<|.rt<|?_
 refine Sx.ret1 (.inl rfl) rfl (.tmp rfl) fun W s => ⟨retB ?_,s.ext⟩
 first
  | (rw [eqP_iff];exact ⟨fun h => (by cases h),fun h => absurd h hne⟩)
  | (rw [eqP_iff];exact ⟨fun _ => heq,fun _ => rfl⟩)
set_option maxRecDepth 100000 in
theorem equal_any (H : Hp) (a b : Ft) : EqAt 15 (dFt .u8) H a b := by
 intro ca cb w ha hb hA
 obtain ⟨p1,c1,p2,c2,p3,c3,rfl,_,k1,k2,k3⟩ := ft_open ha
 obtain ⟨q1,d1,q2,d2,q3,d3,rfl,_,g1,g2,g3⟩ := ft_open hb
 refine Sx.enter (H := H) Tryz.func15 rfl Tryz.ntmps15 rfl hA ?_
 refine .sr<|.bx Z Z Z fun b2 => .bx Z Z Z fun b3 => .a Z Z<|.ns<|.yv (.fieldAddr Z Fx.field40_0) Z<|.yv (.load Z Fx.agg9 (.tail _<|.head _) Z) Z<|.yv (.fieldAddr Z Fx.field40_0) Z<|.yv (.load Z Fx.agg9 (.head _) Z) Z<|.yv (.eqS Z Z) Z<|.m Z Z<|.b2 (fun h10 => ?_) (fun h10 => ?_)
 ·try simp only [dt] at h10
  have e1 := (id h10 : a.nm = b.nm)
  refine .gd Z Z<|.yv (.fieldAddr Z Fx.field40_1) Z<|.gd Z Z<|.yv (.load Z Fx.agg36 (.tail _<|.head _) Z) Z<|.gd Z Z<|.yv (.fieldAddr Z Fx.field40_1) Z<|.gd Z Z<|.yv (.load Z Fx.agg36 (.head _) Z) Z<|.gd Z Z<|.yv (.call Fx.call44 Z (fun W s => slEqF H a.flags b.flags _ _ k1 g1 W s.agr)) Z<|.yv (.pickT Z Z) Z<|.m Z Z<|.b2 (fun h17 => ?_) (fun h17 => ?_)
  ·try simp only [dt] at h17
   have e2 := eqP_iff.1 h17
   refine .gd Z Z<|.yv (.fieldAddr Z Fx.field40_2) Z<|.gd Z Z<|.yv (.load Z Fx.agg37 (.tail _<|.head _) Z) Z<|.gd Z Z<|.yv (.fieldAddr Z Fx.field40_2) Z<|.gd Z Z<|.yv (.load Z Fx.agg37 (.head _) Z) Z<|.gd Z Z<|.yv (.call Fx.call45 Z (fun W s => slEqL H a.links b.links _ _ k2 g2 W s.agr)) Z<|.yv (.pickT Z Z) Z<|.m Z Z<|.b2 (fun h24 => ?_) (fun h24 => ?_)
   ·try simp only [dt] at h24
    have e3 := eqP_iff.1 h24
    refine .gd Z Z<|.yv (.fieldAddr Z Fx.field40_3) Z<|.gd Z Z<|.yv (.load Z Fx.agg38 (.tail _<|.head _) Z) Z<|.gd Z Z<|.yv (.fieldAddr Z Fx.field40_3) Z<|.gd Z Z<|.yv (.load Z Fx.agg38 (.head _) Z) Z<|.gd Z Z<|.yv (.call Fx.call46 Z (fun W s => eqFuncC H 47 Fx.call47 a.comps b.comps (fun x _ => equalComponent_any H x) _ _ k3 g3 W s.agr)) Z<|.yv (.pickT Z Z) Z<|.a Z Z<|.nt<|.rt<|?_
    refine Sx.ret1 (.inl rfl) rfl (.tmp rfl) fun W s => ⟨retB ?_,s.ext⟩
    first
     | (rw [eqP_iff,eqP_iff,ft_eq];exact ⟨fun d => ⟨e1,e2,e3,d⟩,fun h => h.2.2.2⟩)
     | (rw [eqP_iff,ft_eq];exact ⟨fun h => (by cases h),fun h => absurd h.1 e1⟩)
     | (rw [eqP_iff,ft_eq];exact ⟨fun h => (by cases h),fun h => absurd h.2.1 e2⟩)
     | (rw [eqP_iff,ft_eq];exact ⟨fun h => (by cases h),fun h => absurd h.2.2.1 e3⟩)
   try simp only [df] at h24
   have e3 := eqP_false.1 h24
   refine .gF Z Z Z Z<|.gF Z Z Z Z<|.gF Z Z Z Z<|.gF Z Z Z Z<|.gF Z Z Z Z<|.yv (.pickF Z Z) Z<|.a Z Z<|.nt<|.rt<|?_
   refine Sx.ret1 (.inl rfl) rfl (.tmp rfl) fun W s => ⟨retB ?_,s.ext⟩
   first
    | (rw [eqP_iff,eqP_iff,ft_eq];exact ⟨fun d => ⟨e1,e2,e3,d⟩,fun h => h.2.2.2⟩)
    | (rw [eqP_iff,ft_eq];exact ⟨fun h => (by cases h),fun h => absurd h.1 e1⟩)
    | (rw [eqP_iff,ft_eq];exact ⟨fun h => (by cases h),fun h => absurd h.2.1 e2⟩)
    | (rw [eqP_iff,ft_eq];exact ⟨fun h => (by cases h),fun h => absurd h.2.2.1 e3⟩)
  try simp only [df] at h17
  have e2 := eqP_false.1 h17
  refine .gF Z Z Z Z<|.gF Z Z Z Z<|.gF Z Z Z Z<|.gF Z Z Z Z<|.gF Z Z Z Z<|.yv (.pickF Z Z) Z<|.m Z Z<|.gF Z Z Z Z<|.gF Z Z Z Z<|.gF Z Z Z Z<|.gF Z Z Z Z<|.gF Z Z Z Z<|.yv (.pickF Z Z) Z<|.a Z Z<|.nt<|.rt<|?_
  refine Sx.ret1 (.inl rfl) rfl (.tmp rfl) fun W s => ⟨retB ?_,s.ext⟩
  first
   | (rw [eqP_iff,eqP_iff,ft_eq];exact ⟨fun d => ⟨e1,e2,e3,d⟩,fun h => h.2.2.2⟩)
   | (rw [eqP_iff,ft_eq];exact ⟨fun h => (by cases h),fun h => absurd h.1 e1⟩)
   | (rw [eqP_iff,ft_eq];exact ⟨fun h => (by cases h),fun h => absurd h.2.1 e2⟩)
   | (rw [eqP_iff,ft_eq];exact ⟨fun h => (by cases h),fun h => absurd h.2.2.1 e3⟩)
 try simp only [df] at h10
 have e1 := (id h10 : ¬ a.nm = b.nm)
 refine .gF Z Z Z Z<|.gF Z Z Z Z<|.gF Z Z Z Z<|.gF Z Z Z Z<|.gF Z Z Z Z<|.yv (.pickF Z Z) Z<|.m Z Z<|.gF Z Z Z Z<|.gF Z Z Z Z<|.gF Z Z Z Z<|.gF Z Z Z Z<|.gF Z Z Z Z<|.yv (.pickF Z Z) Z<|.m Z Z<|.gF Z Z Z Z<|.gF Z Z Z Z<|.gF Z Z Z Z<|.gF Z Z Z Z<|.gF Z Z Z Z<|.yv (.pickF Z Z) Z<|.a Z Z<|.nt<|.rt<|?_
 refine Sx.ret1 (.inl rfl) rfl (.tmp rfl) fun W s => ⟨retB ?_,s.ext⟩
 first
  | (rw [eqP_iff,eqP_iff,ft_eq];exact ⟨fun d => ⟨e1,e2,e3,d⟩,fun h => h.2.2.2⟩)
  | (rw [eqP_iff,ft_eq];exact ⟨fun h => (by cases h),fun h => absurd h.1 e1⟩)
  | (rw [eqP_iff,ft_eq];exact ⟨fun h => (by cases h),fun h => absurd h.2.1 e2⟩)
  | (rw [eqP_iff,ft_eq];exact ⟨fun h => (by cases h),fun h => absurd h.2.2.1 e3⟩)
end Go.Proofs.YtmbiojpcidccjaaGreatDoor
