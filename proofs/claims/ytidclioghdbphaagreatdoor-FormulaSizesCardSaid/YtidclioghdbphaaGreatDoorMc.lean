/- Texts of the proof, one behind the other. -/
import Derived.Test.YtidclioghdbphaaGreatDoorMb
import Derived.Lib.ItoaNum
import Derived.Lib.ItoaLen
import Derived.Lib.ParseIntB
import Derived.Lib.ParseIntBCases
import Derived.Lib.IndexMore
set_option linter.all false
set_option maxRecDepth 100000
namespace Go.Proofs.YtidclioghdbphaaGreatDoor
open Go.RowKit Go.Par Go.Sx
def n13 (e : Ex) : Bool := decide (e.nm.length ≤ 13)
set_option maxRecDepth 100000 in
theorem buildC_any : ∀ (f d : Nat),d + f = 31 → ∀ (H : Hp) (l : List Nd) (v : Value) (w : World),Rep H (.seq 5 (l.map dNd)) [v] → Agr H w →
 Calls Tryz.prog 169 #[v,.int .i64 (d : Nat)] w fun r w' => ∃ (y : List Value × Value) (H' : Hp),(∃ (e : Ex) (rest : List Nd),Rep H' (dEx .i64 e) y.1 ∧ goodE d e ∧ Ex.all n13 e = true ∧ e.count + 3 * rest.length ≤ 3 * l.length + 1 ∧ Rep H' (.seq 5 (rest.map dNd)) [y.2]) ∧ r = .returned (.tuple #[.agg y.1.toArray,y.2]) ∧ Grow H w H' w' := by
 intro f;induction f using Nat.strongRecOn with
 | _ f ih =>
  intro d hd H l v w h hA;obtain ⟨p,c,e,_⟩ := h.sl;simp only [List.cons.injEq,and_true] at e;subst e;obtain ⟨n,hn⟩ : ∃ n,n = (l.map dNd).length := ⟨_,rfl⟩;rw [← hn] at h ⊢;have hnl : n = l.length := by simpa using hn
  have hcap := h.cap;refine Sx.enter (H := H) Tryz.func169 rfl Tryz.ntmps169 rfl hA ?_;refine .sr<|.al Fx.zero83 Z fun b4 => .a Z Z<|.nt<|.sq<|.sr<|.m Z Z<|.yv (.lenSl Fx.sl149 Z) Z<|.yv (.eql Z Z) Z<|.m Z Z<|.b2 (fun h15 => ?_) (fun h15 => ?_)
  ·try simp only [dt] at h15
   refine .gF Z Z Z Z<|.gF Z Z Z Z<|.yv (.pickT Z Z) Z<|.nt<|.cT Z<|.sr<|.yv (.build Z (Fx.bld83_0 _)) Z<|.m Z Z<|.sW .head Z Z Fx.size83 (by simp [Value.oneCell',strV,cNd]) Z<|.a Z Z<|.nt<|.rt<|.tR<|?_
   exact Sx.retN (.inl rfl) rfl (.cons (.cell rfl Fx.agg83 (.head _) rfl) (.cons (.tmp rfl) .nil)) rfl fun W s => ⟨(_,_),H,⟨.mk 1 [] 0 [],l,ex_shut (by decide) (Rep.empty (by decide)),goodE_leaf (by omega),rfl,(by rw [ex_count,Ex.counts];omega),h⟩,rfl,.pure hA s.ext⟩
  try simp only [df] at h15
  refine .gd Z Z<|.yv (.move Z) Z<|.gd Z Z<|.yv (.gtr Z Z) Z<|.yv (.pickF Z Z) Z<|.nt<|.cd Z (fun h18 => ?_) (fun h18 => ?_)
  ·try simp only [dt] at h18
   refine .sr<|.yv (.build Z (Fx.bld83_0 _)) Z<|.m Z Z<|.sW .head Z Z Fx.size83 (by simp [Value.oneCell',strV,cNd]) Z<|.a Z Z<|.nt<|.rt<|.tR<|?_
   exact Sx.retN (.inl rfl) rfl (.cons (.cell rfl Fx.agg83 (.head _) rfl) (.cons (.tmp rfl) .nil)) rfl fun W s => ⟨(_,_),H,⟨.mk 1 [] 0 [],l,ex_shut (by decide) (Rep.empty (by decide)),goodE_leaf (by omega),rfl,(by rw [ex_count,Ex.counts];omega),h⟩,rfl,.pure hA s.ext⟩
  try simp only [df] at h18
  have hn0 : 0 < n := by omega
  obtain ⟨bE,oE,cE,hpE,rE,lE,mE⟩ := h.elem (map_at (f := dNd) (show 0 < l.length by omega));subst hpE;generalize hx : l[0] = x at rE;obtain rfl := nd_open rE;obtain ⟨op,hop⟩ : ∃ op : UInt8,op.toNat = x.op.toNat % 24 := ⟨UInt8.ofNat (x.op.toNat % 24),by simp [UInt8.toNat_ofNat'];omega⟩;obtain ⟨m0,hm0,hm2⟩ : ∃ m0 : Nat,max (arR op.toNat) 0 = (m0 : Int) ∧ m0 ≤ 2 := ⟨(max (arR op.toNat) 0).toNat,by have := arR_bnd op.toNat;omega,by have := arR_bnd op.toNat;omega⟩;refine .sk<|.tN<|.sr<|.m Z Z<|.yv (.indexSl Fx.sl149 Z Z (i := 0) Z (by omega) (q := oE + 0 * 5) (by omega)) Z<|.yv (.loadMW Z Fx.agg240 mE Z) Z<|.al Fx.zero240 Z fun b6 => .sW .head Z Z Fx.size240 (by simp [Value.oneCell',strV,cNd]) Z<|.ns<|.m Z Z<|.yv (.cutLo Fx.sl149 Z Z (lo := 1) Z (by omega) h.len.2.1) Z<|.a Z Z<|.ns<|.yv (.fieldAddr Z Fx.field240_0) Z<|.yv (.load Z Fx.agg5 (.head _) Z) Z<|.yv (.rem Z Z (by decide) (c := ((x.op.toNat % 24 : Nat) : Int)) (by rw [Int.tmod_eq_emod_of_nonneg (by omega)];omega)) Z<|.yv (.conv Z Fx.int5 Fx.int3 (c := ((op.toNat : Nat) : Int)) ((w6 (by omega)).trans (by rw [hop]))) Z<|.yv (.fieldAddr Z Fx.field240_4) Z<|.yv (.load Z Fx.agg2 (.head _) Z) Z<|.yv (.build Z (Fx.bld83_0_2 _ _)) Z<|.al Fx.zero83 Z fun b7 => .sW .head Z Z Fx.size83 (by simp [Value.oneCell',strV,cNd]) Z<|.ns<|.yv (.fieldAddr Z Fx.field83_0) Z<|.yv (.load Z Fx.agg3 (.head _) Z) Z<|.yv (.call Fx.call170 Z (fun W s => arity_any H op.toNat W s.agr)) Z<|.yv (.max2 Z Z (c := ((m0 : Nat) : Int)) hm0) Z<|.a Z Z<|.nt<|.cu (X := Str) [(0,_),(1,_),(4,_),(6,_),(7,_),(8,_)] ⟨rfl,rfl,rfl,rfl,rfl,rfl,trivial⟩ (fun nm => []) (fun nm => H) (fun nm => [.box b7 [.int .i64 op.toNat,strV nm,.int .i64 (x.n).toInt,.slice none 0 0] 83,.box b6 (cNd x) 240,.box b4 [.int .i64 0,.string ⟨#[]⟩,.int .i64 0,.slice none 0 0] 83]) (fun nm => nm.length ≤ 13) ?_ fun nm hC => ?_
  ·
   refine .sr<|.yv (.fieldAddr Z Fx.field83_0) Z<|.yv (.load Z Fx.agg3 (.head _) Z) Z<|.yv (.geq Z Z) Z<|.m Z Z<|.b2 (fun h40 => ?_) (fun h40 => ?_)
   ·try simp only [dt] at h40
    refine .gd Z Z<|.yv (.fieldAddr Z Fx.field83_0) Z<|.gd Z Z<|.yv (.load Z Fx.agg3 (.head _) Z) Z<|.gd Z Z<|.yv (.leq Z Z) Z<|.yv (.pickT Z Z) Z<|.nt<|.cd Z (fun h44 => ?_) (fun h44 => ?_)
    ·skip
     exact .rg<|.yv (.fieldAddr Z Fx.field240_1) Z<|.yv (.load Z Fx.agg5 (.tail _<|.head _) Z) Z<|.yv (.call Fx.call128 Z (fun W s => word_any H x.nm W s.agr)) Z<|.yv (.fieldAddr Z Fx.field83_1) Z<|.st .head Z Z Fx.size9 Z (nb Z) Z<|.nt<|.me _ trivial ⟨rfl,rfl,rfl,rfl,rfl,rfl,trivial⟩ (fun _ s => s) (by first | exact word_len _ | decide)
    skip
    exact .sk<|.tN<|.me _ trivial ⟨rfl,rfl,rfl,rfl,rfl,rfl,trivial⟩ (fun _ s => s) (by first | exact word_len _ | decide)
   try simp only [df] at h40
   exact .gF Z Z Z Z<|.gF Z Z Z Z<|.gF Z Z Z Z<|.yv (.pickF Z Z) Z<|.nt<|.cF Z<|.sk<|.tN<|.me _ trivial ⟨rfl,rfl,rfl,rfl,rfl,rfl,trivial⟩ (fun _ s => s) (by first | exact word_len _ | decide)
  have hnm := hC;refine .cu (X := Int64) [(0,_),(1,_),(4,_),(6,_),(7,_),(8,_)] ⟨rfl,rfl,rfl,rfl,rfl,rfl,trivial⟩ (fun nn => []) (fun nn => H) (fun nn => [.box b7 [.int .i64 op.toNat,strV nm,.int .i64 (nn).toInt,.slice none 0 0] 83,.box b6 (cNd x) 240,.box b4 [.int .i64 0,.string ⟨#[]⟩,.int .i64 0,.slice none 0 0] 83]) (fun nn => True) ?_ fun nn hC => ?_
  ·
   refine .sr<|.yv (.fieldAddr Z Fx.field83_0) Z<|.yv (.load Z Fx.agg3 (.head _) Z) Z<|.yv (.neq Z Z) Z<|.nt<|.cd Z (fun h51 => ?_) (fun h51 => ?_)
   ·skip
    exact .rg<|.yv (.fieldAddr Z Fx.field83_2) Z<|.st .head Z Z Fx.size2 Z (nb Z) Z<|.nt<|.me 0 trivial ⟨rfl,rfl,rfl,rfl,rfl,rfl,trivial⟩ (fun _ s => s) trivial
   skip
   exact .sk<|.tN<|.me x.n trivial ⟨rfl,rfl,rfl,rfl,rfl,rfl,trivial⟩ (fun _ s => s) trivial
  refine .cu (X := Nat × Str × Int64) [(0,_),(1,_),(4,_),(7,_)] ⟨rfl,rfl,rfl,rfl,trivial⟩ (fun z => [(8,.int .i64 (z.1 : Nat))]) (fun z => H) (fun z => [.box b7 [.int .i64 op.toNat,strV z.2.1,.int .i64 (z.2.2).toInt,.slice none 0 0] 83,.box b6 (cNd x) 240,.box b4 [.int .i64 0,.string ⟨#[]⟩,.int .i64 0,.slice none 0 0] 83]) (fun z => z.1 ≤ 3 ∧ z.2.1.length ≤ 13) ?_ fun z hC => ?_
  ·
   refine .sr<|.yv (.fieldAddr Z Fx.field240_3) Z<|.yv (.load Z Fx.agg4 (.tail _<|.head _) Z) Z<|.nt<|.cd Z (fun h54 => ?_) (fun h54 => ?_)
   ·skip
    refine .sr<|.yv (.fieldAddr Z Fx.field240_2) Z<|.yv (.load Z Fx.agg5 (.tail _<|.head _) Z) Z<|.yv (.rem Z Z (by decide) (c := ((x.ct.toNat % 4 : Nat) : Int)) (by rw [Int.tmod_eq_emod_of_nonneg (by omega)];omega)) Z<|.yv (.conv Z Fx.int5 Fx.int3 (c := ((x.ct.toNat % 4 : Nat) : Int)) (w6 (by omega))) Z<|.a Z Z<|.ns<|.yv (.fieldAddr Z Fx.field240_2) Z<|.yv (.load Z Fx.agg5 (.tail _<|.head _) Z) Z<|.yv (.rem Z Z (by decide) (c := ((x.ct.toNat % 5 : Nat) : Int)) (by rw [Int.tmod_eq_emod_of_nonneg (by omega)];omega)) Z<|.yv (.eql Z Z) Z<|.nt<|.cd Z (fun h62 => ?_) (fun h62 => ?_)
    ·skip
     refine .ar 9 #[false,false,false,false,false,false,false,false,false] (by kernel_rfl) Z Z<|.an 0 [3] (by kernel_rfl) ⟨?_,?_,trivial⟩
     ·
      refine .ao #[true,false,false,false,false,false,false,false,false] Z Z<|.yv (.fieldAddr Z Fx.field240_1) Z<|.nx<|.an 1 [3] (by kernel_rfl) ⟨?_,?_,trivial⟩
      ·
       refine .ao #[true,true,false,false,false,false,false,false,false] Z Z<|.yv (.load Z Fx.agg5 (.tail _<|.head _) Z) Z<|.nx<|.an 2 [3] (by kernel_rfl) ⟨?_,?_,trivial⟩
       ·
        refine .ao #[true,true,true,false,false,false,false,false,false] Z Z<|.yv (.call Fx.call128 Z (fun W s => word_any H x.nm W s.agr)) Z<|.nx<|.an 3 [5] (by kernel_rfl) ⟨?_,?_,trivial⟩
        ·
         refine .ao #[true,true,true,true,false,false,false,false,false] Z Z<|.yv (.fieldAddr Z Fx.field240_4) Z<|.nx<|.an 4 [5] (by kernel_rfl) ⟨?_,?_,trivial⟩
         ·
          refine .ao #[true,true,true,true,true,false,false,false,false] Z Z<|.yv (.load Z Fx.agg2 (.tail _<|.head _) Z) Z<|.nx<|.an 5 [] (by kernel_rfl) ⟨?_,trivial⟩
          refine .ao #[true,true,true,true,true,true,false,false,false] Z Z<|.yv (.fieldAddr Z Fx.field83_1) Z<|.nx<|.an 6 [] (by kernel_rfl) ⟨?_,trivial⟩
          refine .ao #[true,true,true,true,true,true,true,false,false] Z Z<|.st .head Z Z Fx.size9 Z (nb Z) Z<|.nx<|.an 7 [] (by kernel_rfl) ⟨?_,trivial⟩
          refine .ao #[true,true,true,true,true,true,true,true,false] Z Z<|.yv (.fieldAddr Z Fx.field83_2) Z<|.nx<|.an 8 [] (by kernel_rfl) ⟨?_,trivial⟩
          exact .ao #[true,true,true,true,true,true,true,true,true] Z Z<|.st .head Z Z Fx.size2 Z (nb Z) Z<|.nx<|.ae (by kernel_rfl)<|.tN<|.me (x.ct.toNat % 4,wordR x.nm,x.n) ⟨rfl,trivial⟩ ⟨rfl,rfl,rfl,rfl,trivial⟩ (fun _ s => s) ⟨by dsimp only;omega,by dsimp only;first | exact word_len _ | exact hnm⟩
         refine .ao #[true,true,true,true,false,true,false,false,false] Z Z<|.yv (.fieldAddr Z Fx.field83_1) Z<|.nx<|.an 4 [6] (by kernel_rfl) ⟨?_,?_,trivial⟩
         ·
          refine .ao #[true,true,true,true,true,true,false,false,false] Z Z<|.yv (.load Z Fx.agg2 (.tail _<|.head _) Z) Z<|.nx<|.an 6 [] (by kernel_rfl) ⟨?_,trivial⟩
          refine .ao #[true,true,true,true,true,true,true,false,false] Z Z<|.st .head Z Z Fx.size9 Z (nb Z) Z<|.nx<|.an 7 [] (by kernel_rfl) ⟨?_,trivial⟩
          refine .ao #[true,true,true,true,true,true,true,true,false] Z Z<|.yv (.fieldAddr Z Fx.field83_2) Z<|.nx<|.an 8 [] (by kernel_rfl) ⟨?_,trivial⟩
          exact .ao #[true,true,true,true,true,true,true,true,true] Z Z<|.st .head Z Z Fx.size2 Z (nb Z) Z<|.nx<|.ae (by kernel_rfl)<|.tN<|.me (x.ct.toNat % 4,wordR x.nm,x.n) ⟨rfl,trivial⟩ ⟨rfl,rfl,rfl,rfl,trivial⟩ (fun _ s => s) ⟨by dsimp only;omega,by dsimp only;first | exact word_len _ | exact hnm⟩
         refine .ao #[true,true,true,true,false,true,true,false,false] Z Z<|.st .head Z Z Fx.size9 Z (nb Z) Z<|.nx<|.an 4 [] (by kernel_rfl) ⟨?_,trivial⟩
         refine .ao #[true,true,true,true,true,true,true,false,false] Z Z<|.yv (.load Z Fx.agg2 (.tail _<|.head _) Z) Z<|.nx<|.an 7 [] (by kernel_rfl) ⟨?_,trivial⟩
         refine .ao #[true,true,true,true,true,true,true,true,false] Z Z<|.yv (.fieldAddr Z Fx.field83_2) Z<|.nx<|.an 8 [] (by kernel_rfl) ⟨?_,trivial⟩
         exact .ao #[true,true,true,true,true,true,true,true,true] Z Z<|.st .head Z Z Fx.size2 Z (nb Z) Z<|.nx<|.ae (by kernel_rfl)<|.tN<|.me (x.ct.toNat % 4,wordR x.nm,x.n) ⟨rfl,trivial⟩ ⟨rfl,rfl,rfl,rfl,trivial⟩ (fun _ s => s) ⟨by dsimp only;omega,by dsimp only;first | exact word_len _ | exact hnm⟩
        refine .ao #[true,true,true,false,false,true,false,false,false] Z Z<|.yv (.fieldAddr Z Fx.field83_1) Z<|.nx<|.an 3 [6] (by kernel_rfl) ⟨?_,?_,trivial⟩
        ·
         refine .ao #[true,true,true,true,false,true,false,false,false] Z Z<|.yv (.fieldAddr Z Fx.field240_4) Z<|.nx<|.an 4 [6] (by kernel_rfl) ⟨?_,?_,trivial⟩
         ·
          refine .ao #[true,true,true,true,true,true,false,false,false] Z Z<|.yv (.load Z Fx.agg2 (.tail _<|.head _) Z) Z<|.nx<|.an 6 [] (by kernel_rfl) ⟨?_,trivial⟩
          refine .ao #[true,true,true,true,true,true,true,false,false] Z Z<|.st .head Z Z Fx.size9 Z (nb Z) Z<|.nx<|.an 7 [] (by kernel_rfl) ⟨?_,trivial⟩
          refine .ao #[true,true,true,true,true,true,true,true,false] Z Z<|.yv (.fieldAddr Z Fx.field83_2) Z<|.nx<|.an 8 [] (by kernel_rfl) ⟨?_,trivial⟩
          exact .ao #[true,true,true,true,true,true,true,true,true] Z Z<|.st .head Z Z Fx.size2 Z (nb Z) Z<|.nx<|.ae (by kernel_rfl)<|.tN<|.me (x.ct.toNat % 4,wordR x.nm,x.n) ⟨rfl,trivial⟩ ⟨rfl,rfl,rfl,rfl,trivial⟩ (fun _ s => s) ⟨by dsimp only;omega,by dsimp only;first | exact word_len _ | exact hnm⟩
         refine .ao #[true,true,true,true,false,true,true,false,false] Z Z<|.st .head Z Z Fx.size9 Z (nb Z) Z<|.nx<|.an 4 [] (by kernel_rfl) ⟨?_,trivial⟩
         refine .ao #[true,true,true,true,true,true,true,false,false] Z Z<|.yv (.load Z Fx.agg2 (.tail _<|.head _) Z) Z<|.nx<|.an 7 [] (by kernel_rfl) ⟨?_,trivial⟩
         refine .ao #[true,true,true,true,true,true,true,true,false] Z Z<|.yv (.fieldAddr Z Fx.field83_2) Z<|.nx<|.an 8 [] (by kernel_rfl) ⟨?_,trivial⟩
         exact .ao #[true,true,true,true,true,true,true,true,true] Z Z<|.st .head Z Z Fx.size2 Z (nb Z) Z<|.nx<|.ae (by kernel_rfl)<|.tN<|.me (x.ct.toNat % 4,wordR x.nm,x.n) ⟨rfl,trivial⟩ ⟨rfl,rfl,rfl,rfl,trivial⟩ (fun _ s => s) ⟨by dsimp only;omega,by dsimp only;first | exact word_len _ | exact hnm⟩
        refine .ao #[true,true,true,false,false,true,true,false,false] Z Z<|.st .head Z Z Fx.size9 Z (nb Z) Z<|.nx<|.an 3 [] (by kernel_rfl) ⟨?_,trivial⟩
        refine .ao #[true,true,true,true,false,true,true,false,false] Z Z<|.yv (.fieldAddr Z Fx.field240_4) Z<|.nx<|.an 4 [] (by kernel_rfl) ⟨?_,trivial⟩
        refine .ao #[true,true,true,true,true,true,true,false,false] Z Z<|.yv (.load Z Fx.agg2 (.tail _<|.head _) Z) Z<|.nx<|.an 7 [] (by kernel_rfl) ⟨?_,trivial⟩
        refine .ao #[true,true,true,true,true,true,true,true,false] Z Z<|.yv (.fieldAddr Z Fx.field83_2) Z<|.nx<|.an 8 [] (by kernel_rfl) ⟨?_,trivial⟩
        exact .ao #[true,true,true,true,true,true,true,true,true] Z Z<|.st .head Z Z Fx.size2 Z (nb Z) Z<|.nx<|.ae (by kernel_rfl)<|.tN<|.me (x.ct.toNat % 4,wordR x.nm,x.n) ⟨rfl,trivial⟩ ⟨rfl,rfl,rfl,rfl,trivial⟩ (fun _ s => s) ⟨by dsimp only;omega,by dsimp only;first | exact word_len _ | exact hnm⟩
       refine .ao #[true,true,false,true,false,false,false,false,false] Z Z<|.yv (.fieldAddr Z Fx.field240_4) Z<|.nx<|.an 2 [4] (by kernel_rfl) ⟨?_,?_,trivial⟩
       ·
        refine .ao #[true,true,true,true,false,false,false,false,false] Z Z<|.yv (.call Fx.call128 Z (fun W s => word_any H x.nm W s.agr)) Z<|.nx<|.an 4 [5] (by kernel_rfl) ⟨?_,?_,trivial⟩
        ·
         refine .ao #[true,true,true,true,true,false,false,false,false] Z Z<|.yv (.load Z Fx.agg2 (.tail _<|.head _) Z) Z<|.nx<|.an 5 [] (by kernel_rfl) ⟨?_,trivial⟩
         refine .ao #[true,true,true,true,true,true,false,false,false] Z Z<|.yv (.fieldAddr Z Fx.field83_1) Z<|.nx<|.an 6 [] (by kernel_rfl) ⟨?_,trivial⟩
         refine .ao #[true,true,true,true,true,true,true,false,false] Z Z<|.st .head Z Z Fx.size9 Z (nb Z) Z<|.nx<|.an 7 [] (by kernel_rfl) ⟨?_,trivial⟩
         refine .ao #[true,true,true,true,true,true,true,true,false] Z Z<|.yv (.fieldAddr Z Fx.field83_2) Z<|.nx<|.an 8 [] (by kernel_rfl) ⟨?_,trivial⟩
         exact .ao #[true,true,true,true,true,true,true,true,true] Z Z<|.st .head Z Z Fx.size2 Z (nb Z) Z<|.nx<|.ae (by kernel_rfl)<|.tN<|.me (x.ct.toNat % 4,wordR x.nm,x.n) ⟨rfl,trivial⟩ ⟨rfl,rfl,rfl,rfl,trivial⟩ (fun _ s => s) ⟨by dsimp only;omega,by dsimp only;first | exact word_len _ | exact hnm⟩
        refine .ao #[true,true,true,true,false,true,false,false,false] Z Z<|.yv (.fieldAddr Z Fx.field83_1) Z<|.nx<|.an 4 [6] (by kernel_rfl) ⟨?_,?_,trivial⟩
        ·
         refine .ao #[true,true,true,true,true,true,false,false,false] Z Z<|.yv (.load Z Fx.agg2 (.tail _<|.head _) Z) Z<|.nx<|.an 6 [] (by kernel_rfl) ⟨?_,trivial⟩
         refine .ao #[true,true,true,true,true,true,true,false,false] Z Z<|.st .head Z Z Fx.size9 Z (nb Z) Z<|.nx<|.an 7 [] (by kernel_rfl) ⟨?_,trivial⟩
         refine .ao #[true,true,true,true,true,true,true,true,false] Z Z<|.yv (.fieldAddr Z Fx.field83_2) Z<|.nx<|.an 8 [] (by kernel_rfl) ⟨?_,trivial⟩
         exact .ao #[true,true,true,true,true,true,true,true,true] Z Z<|.st .head Z Z Fx.size2 Z (nb Z) Z<|.nx<|.ae (by kernel_rfl)<|.tN<|.me (x.ct.toNat % 4,wordR x.nm,x.n) ⟨rfl,trivial⟩ ⟨rfl,rfl,rfl,rfl,trivial⟩ (fun _ s => s) ⟨by dsimp only;omega,by dsimp only;first | exact word_len _ | exact hnm⟩
        refine .ao #[true,true,true,true,false,true,true,false,false] Z Z<|.st .head Z Z Fx.size9 Z (nb Z) Z<|.nx<|.an 4 [] (by kernel_rfl) ⟨?_,trivial⟩
        refine .ao #[true,true,true,true,true,true,true,false,false] Z Z<|.yv (.load Z Fx.agg2 (.tail _<|.head _) Z) Z<|.nx<|.an 7 [] (by kernel_rfl) ⟨?_,trivial⟩
        refine .ao #[true,true,true,true,true,true,true,true,false] Z Z<|.yv (.fieldAddr Z Fx.field83_2) Z<|.nx<|.an 8 [] (by kernel_rfl) ⟨?_,trivial⟩
        exact .ao #[true,true,true,true,true,true,true,true,true] Z Z<|.st .head Z Z Fx.size2 Z (nb Z) Z<|.nx<|.ae (by kernel_rfl)<|.tN<|.me (x.ct.toNat % 4,wordR x.nm,x.n) ⟨rfl,trivial⟩ ⟨rfl,rfl,rfl,rfl,trivial⟩ (fun _ s => s) ⟨by dsimp only;omega,by dsimp only;first | exact word_len _ | exact hnm⟩
       refine .ao #[true,true,false,true,true,false,false,false,false] Z Z<|.yv (.load Z Fx.agg2 (.tail _<|.head _) Z) Z<|.nx<|.an 2 [] (by kernel_rfl) ⟨?_,trivial⟩
       refine .ao #[true,true,true,true,true,false,false,false,false] Z Z<|.yv (.call Fx.call128 Z (fun W s => word_any H x.nm W s.agr)) Z<|.nx<|.an 5 [] (by kernel_rfl) ⟨?_,trivial⟩
       refine .ao #[true,true,true,true,true,true,false,false,false] Z Z<|.yv (.fieldAddr Z Fx.field83_1) Z<|.nx<|.an 6 [] (by kernel_rfl) ⟨?_,trivial⟩
       refine .ao #[true,true,true,true,true,true,true,false,false] Z Z<|.st .head Z Z Fx.size9 Z (nb Z) Z<|.nx<|.an 7 [] (by kernel_rfl) ⟨?_,trivial⟩
       refine .ao #[true,true,true,true,true,true,true,true,false] Z Z<|.yv (.fieldAddr Z Fx.field83_2) Z<|.nx<|.an 8 [] (by kernel_rfl) ⟨?_,trivial⟩
       exact .ao #[true,true,true,true,true,true,true,true,true] Z Z<|.st .head Z Z Fx.size2 Z (nb Z) Z<|.nx<|.ae (by kernel_rfl)<|.tN<|.me (x.ct.toNat % 4,wordR x.nm,x.n) ⟨rfl,trivial⟩ ⟨rfl,rfl,rfl,rfl,trivial⟩ (fun _ s => s) ⟨by dsimp only;omega,by dsimp only;first | exact word_len _ | exact hnm⟩
      refine .ao #[true,false,false,true,false,false,false,false,false] Z Z<|.yv (.fieldAddr Z Fx.field240_4) Z<|.nx<|.an 1 [4] (by kernel_rfl) ⟨?_,?_,trivial⟩
      ·
       refine .ao #[true,true,false,true,false,false,false,false,false] Z Z<|.yv (.load Z Fx.agg5 (.tail _<|.head _) Z) Z<|.nx<|.an 2 [4] (by kernel_rfl) ⟨?_,?_,trivial⟩
       ·
        refine .ao #[true,true,true,true,false,false,false,false,false] Z Z<|.yv (.call Fx.call128 Z (fun W s => word_any H x.nm W s.agr)) Z<|.nx<|.an 4 [5] (by kernel_rfl) ⟨?_,?_,trivial⟩
        ·
         refine .ao #[true,true,true,true,true,false,false,false,false] Z Z<|.yv (.load Z Fx.agg2 (.tail _<|.head _) Z) Z<|.nx<|.an 5 [] (by kernel_rfl) ⟨?_,trivial⟩
         refine .ao #[true,true,true,true,true,true,false,false,false] Z Z<|.yv (.fieldAddr Z Fx.field83_1) Z<|.nx<|.an 6 [] (by kernel_rfl) ⟨?_,trivial⟩
         refine .ao #[true,true,true,true,true,true,true,false,false] Z Z<|.st .head Z Z Fx.size9 Z (nb Z) Z<|.nx<|.an 7 [] (by kernel_rfl) ⟨?_,trivial⟩
         refine .ao #[true,true,true,true,true,true,true,true,false] Z Z<|.yv (.fieldAddr Z Fx.field83_2) Z<|.nx<|.an 8 [] (by kernel_rfl) ⟨?_,trivial⟩
         exact .ao #[true,true,true,true,true,true,true,true,true] Z Z<|.st .head Z Z Fx.size2 Z (nb Z) Z<|.nx<|.ae (by kernel_rfl)<|.tN<|.me (x.ct.toNat % 4,wordR x.nm,x.n) ⟨rfl,trivial⟩ ⟨rfl,rfl,rfl,rfl,trivial⟩ (fun _ s => s) ⟨by dsimp only;omega,by dsimp only;first | exact word_len _ | exact hnm⟩
        refine .ao #[true,true,true,true,false,true,false,false,false] Z Z<|.yv (.fieldAddr Z Fx.field83_1) Z<|.nx<|.an 4 [6] (by kernel_rfl) ⟨?_,?_,trivial⟩
        ·
         refine .ao #[true,true,true,true,true,true,false,false,false] Z Z<|.yv (.load Z Fx.agg2 (.tail _<|.head _) Z) Z<|.nx<|.an 6 [] (by kernel_rfl) ⟨?_,trivial⟩
         refine .ao #[true,true,true,true,true,true,true,false,false] Z Z<|.st .head Z Z Fx.size9 Z (nb Z) Z<|.nx<|.an 7 [] (by kernel_rfl) ⟨?_,trivial⟩
         refine .ao #[true,true,true,true,true,true,true,true,false] Z Z<|.yv (.fieldAddr Z Fx.field83_2) Z<|.nx<|.an 8 [] (by kernel_rfl) ⟨?_,trivial⟩
         exact .ao #[true,true,true,true,true,true,true,true,true] Z Z<|.st .head Z Z Fx.size2 Z (nb Z) Z<|.nx<|.ae (by kernel_rfl)<|.tN<|.me (x.ct.toNat % 4,wordR x.nm,x.n) ⟨rfl,trivial⟩ ⟨rfl,rfl,rfl,rfl,trivial⟩ (fun _ s => s) ⟨by dsimp only;omega,by dsimp only;first | exact word_len _ | exact hnm⟩
        refine .ao #[true,true,true,true,false,true,true,false,false] Z Z<|.st .head Z Z Fx.size9 Z (nb Z) Z<|.nx<|.an 4 [] (by kernel_rfl) ⟨?_,trivial⟩
        refine .ao #[true,true,true,true,true,true,true,false,false] Z Z<|.yv (.load Z Fx.agg2 (.tail _<|.head _) Z) Z<|.nx<|.an 7 [] (by kernel_rfl) ⟨?_,trivial⟩
        refine .ao #[true,true,true,true,true,true,true,true,false] Z Z<|.yv (.fieldAddr Z Fx.field83_2) Z<|.nx<|.an 8 [] (by kernel_rfl) ⟨?_,trivial⟩
        exact .ao #[true,true,true,true,true,true,true,true,true] Z Z<|.st .head Z Z Fx.size2 Z (nb Z) Z<|.nx<|.ae (by kernel_rfl)<|.tN<|.me (x.ct.toNat % 4,wordR x.nm,x.n) ⟨rfl,trivial⟩ ⟨rfl,rfl,rfl,rfl,trivial⟩ (fun _ s => s) ⟨by dsimp only;omega,by dsimp only;first | exact word_len _ | exact hnm⟩
       refine .ao #[true,true,false,true,true,false,false,false,false] Z Z<|.yv (.load Z Fx.agg2 (.tail _<|.head _) Z) Z<|.nx<|.an 2 [] (by kernel_rfl) ⟨?_,trivial⟩
       refine .ao #[true,true,true,true,true,false,false,false,false] Z Z<|.yv (.call Fx.call128 Z (fun W s => word_any H x.nm W s.agr)) Z<|.nx<|.an 5 [] (by kernel_rfl) ⟨?_,trivial⟩
       refine .ao #[true,true,true,true,true,true,false,false,false] Z Z<|.yv (.fieldAddr Z Fx.field83_1) Z<|.nx<|.an 6 [] (by kernel_rfl) ⟨?_,trivial⟩
       refine .ao #[true,true,true,true,true,true,true,false,false] Z Z<|.st .head Z Z Fx.size9 Z (nb Z) Z<|.nx<|.an 7 [] (by kernel_rfl) ⟨?_,trivial⟩
       refine .ao #[true,true,true,true,true,true,true,true,false] Z Z<|.yv (.fieldAddr Z Fx.field83_2) Z<|.nx<|.an 8 [] (by kernel_rfl) ⟨?_,trivial⟩
       exact .ao #[true,true,true,true,true,true,true,true,true] Z Z<|.st .head Z Z Fx.size2 Z (nb Z) Z<|.nx<|.ae (by kernel_rfl)<|.tN<|.me (x.ct.toNat % 4,wordR x.nm,x.n) ⟨rfl,trivial⟩ ⟨rfl,rfl,rfl,rfl,trivial⟩ (fun _ s => s) ⟨by dsimp only;omega,by dsimp only;first | exact word_len _ | exact hnm⟩
      refine .ao #[true,false,false,true,true,false,false,false,false] Z Z<|.yv (.load Z Fx.agg2 (.tail _<|.head _) Z) Z<|.nx<|.an 1 [] (by kernel_rfl) ⟨?_,trivial⟩
      refine .ao #[true,true,false,true,true,false,false,false,false] Z Z<|.yv (.load Z Fx.agg5 (.tail _<|.head _) Z) Z<|.nx<|.an 2 [] (by kernel_rfl) ⟨?_,trivial⟩
      refine .ao #[true,true,true,true,true,false,false,false,false] Z Z<|.yv (.call Fx.call128 Z (fun W s => word_any H x.nm W s.agr)) Z<|.nx<|.an 5 [] (by kernel_rfl) ⟨?_,trivial⟩
      refine .ao #[true,true,true,true,true,true,false,false,false] Z Z<|.yv (.fieldAddr Z Fx.field83_1) Z<|.nx<|.an 6 [] (by kernel_rfl) ⟨?_,trivial⟩
      refine .ao #[true,true,true,true,true,true,true,false,false] Z Z<|.st .head Z Z Fx.size9 Z (nb Z) Z<|.nx<|.an 7 [] (by kernel_rfl) ⟨?_,trivial⟩
      refine .ao #[true,true,true,true,true,true,true,true,false] Z Z<|.yv (.fieldAddr Z Fx.field83_2) Z<|.nx<|.an 8 [] (by kernel_rfl) ⟨?_,trivial⟩
      exact .ao #[true,true,true,true,true,true,true,true,true] Z Z<|.st .head Z Z Fx.size2 Z (nb Z) Z<|.nx<|.ae (by kernel_rfl)<|.tN<|.me (x.ct.toNat % 4,wordR x.nm,x.n) ⟨rfl,trivial⟩ ⟨rfl,rfl,rfl,rfl,trivial⟩ (fun _ s => s) ⟨by dsimp only;omega,by dsimp only;first | exact word_len _ | exact hnm⟩
     refine .ao #[false,false,false,true,false,false,false,false,false] Z Z<|.yv (.fieldAddr Z Fx.field240_4) Z<|.nx<|.an 0 [4] (by kernel_rfl) ⟨?_,?_,trivial⟩
     ·
      refine .ao #[true,false,false,true,false,false,false,false,false] Z Z<|.yv (.fieldAddr Z Fx.field240_1) Z<|.nx<|.an 1 [4] (by kernel_rfl) ⟨?_,?_,trivial⟩
      ·
       refine .ao #[true,true,false,true,false,false,false,false,false] Z Z<|.yv (.load Z Fx.agg5 (.tail _<|.head _) Z) Z<|.nx<|.an 2 [4] (by kernel_rfl) ⟨?_,?_,trivial⟩
       ·
        refine .ao #[true,true,true,true,false,false,false,false,false] Z Z<|.yv (.call Fx.call128 Z (fun W s => word_any H x.nm W s.agr)) Z<|.nx<|.an 4 [5] (by kernel_rfl) ⟨?_,?_,trivial⟩
        ·
         refine .ao #[true,true,true,true,true,false,false,false,false] Z Z<|.yv (.load Z Fx.agg2 (.tail _<|.head _) Z) Z<|.nx<|.an 5 [] (by kernel_rfl) ⟨?_,trivial⟩
         refine .ao #[true,true,true,true,true,true,false,false,false] Z Z<|.yv (.fieldAddr Z Fx.field83_1) Z<|.nx<|.an 6 [] (by kernel_rfl) ⟨?_,trivial⟩
         refine .ao #[true,true,true,true,true,true,true,false,false] Z Z<|.st .head Z Z Fx.size9 Z (nb Z) Z<|.nx<|.an 7 [] (by kernel_rfl) ⟨?_,trivial⟩
         refine .ao #[true,true,true,true,true,true,true,true,false] Z Z<|.yv (.fieldAddr Z Fx.field83_2) Z<|.nx<|.an 8 [] (by kernel_rfl) ⟨?_,trivial⟩
         exact .ao #[true,true,true,true,true,true,true,true,true] Z Z<|.st .head Z Z Fx.size2 Z (nb Z) Z<|.nx<|.ae (by kernel_rfl)<|.tN<|.me (x.ct.toNat % 4,wordR x.nm,x.n) ⟨rfl,trivial⟩ ⟨rfl,rfl,rfl,rfl,trivial⟩ (fun _ s => s) ⟨by dsimp only;omega,by dsimp only;first | exact word_len _ | exact hnm⟩
        refine .ao #[true,true,true,true,false,true,false,false,false] Z Z<|.yv (.fieldAddr Z Fx.field83_1) Z<|.nx<|.an 4 [6] (by kernel_rfl) ⟨?_,?_,trivial⟩
        ·
         refine .ao #[true,true,true,true,true,true,false,false,false] Z Z<|.yv (.load Z Fx.agg2 (.tail _<|.head _) Z) Z<|.nx<|.an 6 [] (by kernel_rfl) ⟨?_,trivial⟩
         refine .ao #[true,true,true,true,true,true,true,false,false] Z Z<|.st .head Z Z Fx.size9 Z (nb Z) Z<|.nx<|.an 7 [] (by kernel_rfl) ⟨?_,trivial⟩
         refine .ao #[true,true,true,true,true,true,true,true,false] Z Z<|.yv (.fieldAddr Z Fx.field83_2) Z<|.nx<|.an 8 [] (by kernel_rfl) ⟨?_,trivial⟩
         exact .ao #[true,true,true,true,true,true,true,true,true] Z Z<|.st .head Z Z Fx.size2 Z (nb Z) Z<|.nx<|.ae (by kernel_rfl)<|.tN<|.me (x.ct.toNat % 4,wordR x.nm,x.n) ⟨rfl,trivial⟩ ⟨rfl,rfl,rfl,rfl,trivial⟩ (fun _ s => s) ⟨by dsimp only;omega,by dsimp only;first | exact word_len _ | exact hnm⟩
        refine .ao #[true,true,true,true,false,true,true,false,false] Z Z<|.st .head Z Z Fx.size9 Z (nb Z) Z<|.nx<|.an 4 [] (by kernel_rfl) ⟨?_,trivial⟩
        refine .ao #[true,true,true,true,true,true,true,false,false] Z Z<|.yv (.load Z Fx.agg2 (.tail _<|.head _) Z) Z<|.nx<|.an 7 [] (by kernel_rfl) ⟨?_,trivial⟩
        refine .ao #[true,true,true,true,true,true,true,true,false] Z Z<|.yv (.fieldAddr Z Fx.field83_2) Z<|.nx<|.an 8 [] (by kernel_rfl) ⟨?_,trivial⟩
        exact .ao #[true,true,true,true,true,true,true,true,true] Z Z<|.st .head Z Z Fx.size2 Z (nb Z) Z<|.nx<|.ae (by kernel_rfl)<|.tN<|.me (x.ct.toNat % 4,wordR x.nm,x.n) ⟨rfl,trivial⟩ ⟨rfl,rfl,rfl,rfl,trivial⟩ (fun _ s => s) ⟨by dsimp only;omega,by dsimp only;first | exact word_len _ | exact hnm⟩
       refine .ao #[true,true,false,true,true,false,false,false,false] Z Z<|.yv (.load Z Fx.agg2 (.tail _<|.head _) Z) Z<|.nx<|.an 2 [] (by kernel_rfl) ⟨?_,trivial⟩
       refine .ao #[true,true,true,true,true,false,false,false,false] Z Z<|.yv (.call Fx.call128 Z (fun W s => word_any H x.nm W s.agr)) Z<|.nx<|.an 5 [] (by kernel_rfl) ⟨?_,trivial⟩
       refine .ao #[true,true,true,true,true,true,false,false,false] Z Z<|.yv (.fieldAddr Z Fx.field83_1) Z<|.nx<|.an 6 [] (by kernel_rfl) ⟨?_,trivial⟩
       refine .ao #[true,true,true,true,true,true,true,false,false] Z Z<|.st .head Z Z Fx.size9 Z (nb Z) Z<|.nx<|.an 7 [] (by kernel_rfl) ⟨?_,trivial⟩
       refine .ao #[true,true,true,true,true,true,true,true,false] Z Z<|.yv (.fieldAddr Z Fx.field83_2) Z<|.nx<|.an 8 [] (by kernel_rfl) ⟨?_,trivial⟩
       exact .ao #[true,true,true,true,true,true,true,true,true] Z Z<|.st .head Z Z Fx.size2 Z (nb Z) Z<|.nx<|.ae (by kernel_rfl)<|.tN<|.me (x.ct.toNat % 4,wordR x.nm,x.n) ⟨rfl,trivial⟩ ⟨rfl,rfl,rfl,rfl,trivial⟩ (fun _ s => s) ⟨by dsimp only;omega,by dsimp only;first | exact word_len _ | exact hnm⟩
      refine .ao #[true,false,false,true,true,false,false,false,false] Z Z<|.yv (.load Z Fx.agg2 (.tail _<|.head _) Z) Z<|.nx<|.an 1 [] (by kernel_rfl) ⟨?_,trivial⟩
      refine .ao #[true,true,false,true,true,false,false,false,false] Z Z<|.yv (.load Z Fx.agg5 (.tail _<|.head _) Z) Z<|.nx<|.an 2 [] (by kernel_rfl) ⟨?_,trivial⟩
      refine .ao #[true,true,true,true,true,false,false,false,false] Z Z<|.yv (.call Fx.call128 Z (fun W s => word_any H x.nm W s.agr)) Z<|.nx<|.an 5 [] (by kernel_rfl) ⟨?_,trivial⟩
      refine .ao #[true,true,true,true,true,true,false,false,false] Z Z<|.yv (.fieldAddr Z Fx.field83_1) Z<|.nx<|.an 6 [] (by kernel_rfl) ⟨?_,trivial⟩
      refine .ao #[true,true,true,true,true,true,true,false,false] Z Z<|.st .head Z Z Fx.size9 Z (nb Z) Z<|.nx<|.an 7 [] (by kernel_rfl) ⟨?_,trivial⟩
      refine .ao #[true,true,true,true,true,true,true,true,false] Z Z<|.yv (.fieldAddr Z Fx.field83_2) Z<|.nx<|.an 8 [] (by kernel_rfl) ⟨?_,trivial⟩
      exact .ao #[true,true,true,true,true,true,true,true,true] Z Z<|.st .head Z Z Fx.size2 Z (nb Z) Z<|.nx<|.ae (by kernel_rfl)<|.tN<|.me (x.ct.toNat % 4,wordR x.nm,x.n) ⟨rfl,trivial⟩ ⟨rfl,rfl,rfl,rfl,trivial⟩ (fun _ s => s) ⟨by dsimp only;omega,by dsimp only;first | exact word_len _ | exact hnm⟩
     refine .ao #[false,false,false,true,true,false,false,false,false] Z Z<|.yv (.load Z Fx.agg2 (.tail _<|.head _) Z) Z<|.nx<|.an 0 [] (by kernel_rfl) ⟨?_,trivial⟩
     refine .ao #[true,false,false,true,true,false,false,false,false] Z Z<|.yv (.fieldAddr Z Fx.field240_1) Z<|.nx<|.an 1 [] (by kernel_rfl) ⟨?_,trivial⟩
     refine .ao #[true,true,false,true,true,false,false,false,false] Z Z<|.yv (.load Z Fx.agg5 (.tail _<|.head _) Z) Z<|.nx<|.an 2 [] (by kernel_rfl) ⟨?_,trivial⟩
     refine .ao #[true,true,true,true,true,false,false,false,false] Z Z<|.yv (.call Fx.call128 Z (fun W s => word_any H x.nm W s.agr)) Z<|.nx<|.an 5 [] (by kernel_rfl) ⟨?_,trivial⟩
     refine .ao #[true,true,true,true,true,true,false,false,false] Z Z<|.yv (.fieldAddr Z Fx.field83_1) Z<|.nx<|.an 6 [] (by kernel_rfl) ⟨?_,trivial⟩
     refine .ao #[true,true,true,true,true,true,true,false,false] Z Z<|.st .head Z Z Fx.size9 Z (nb Z) Z<|.nx<|.an 7 [] (by kernel_rfl) ⟨?_,trivial⟩
     refine .ao #[true,true,true,true,true,true,true,true,false] Z Z<|.yv (.fieldAddr Z Fx.field83_2) Z<|.nx<|.an 8 [] (by kernel_rfl) ⟨?_,trivial⟩
     exact .ao #[true,true,true,true,true,true,true,true,true] Z Z<|.st .head Z Z Fx.size2 Z (nb Z) Z<|.nx<|.ae (by kernel_rfl)<|.tN<|.me (x.ct.toNat % 4,wordR x.nm,x.n) ⟨rfl,trivial⟩ ⟨rfl,rfl,rfl,rfl,trivial⟩ (fun _ s => s) ⟨by dsimp only;omega,by dsimp only;first | exact word_len _ | exact hnm⟩
    skip
    exact .sk<|.tN<|.me (x.ct.toNat % 4,nm,nn) ⟨rfl,trivial⟩ ⟨rfl,rfl,rfl,rfl,trivial⟩ (fun _ s => s) ⟨by dsimp only;omega,by dsimp only;first | exact word_len _ | exact hnm⟩
   skip
   exact .sk<|.tN<|.me (m0,nm,nn) ⟨rfl,trivial⟩ ⟨rfl,rfl,rfl,rfl,trivial⟩ (fun _ s => s) ⟨by dsimp only;omega,by dsimp only;first | exact word_len _ | exact hnm⟩
  obtain ⟨m,nm,nn⟩ := z;dsimp only at hC ⊢;obtain ⟨hm3,hnm⟩ := hC;refine Sx.row0 83 4 ?_;refine .sq<|.sr<|.a Z Z<|.nt<|.bk<|.lp (X := Nat × Hp × Value × List Value × Value) [(1,_),(4,_),(7,_),(8,_)] ⟨rfl,rfl,rfl,rfl,trivial⟩ [_,_] (fun z => [(9,.int .i64 (z.1 : Nat)),(0,z.2.2.2.2)]) (fun z => z.2.1) (fun z => [.row 83 4 z.2.2.1 z.1 z.2.2.2.1,.box b7 [.int .i64 op.toNat,strV nm,.int .i64 (nn).toInt,z.2.2.1] 83]) (fun z => z.1 ≤ m ∧ HUp w H z.2.1 ∧ ∃ (es : List Ex) (rest : List Nd),es.length = z.1 ∧ RepZ z.2.1 4 (es.map (dEx .i64)) z.2.2.2.1 ∧ goodEs d es ∧ Ex.alls n13 es = true ∧ Ex.counts es + 3 * rest.length + 3 ≤ 3 * l.length + es.length ∧ Rep z.2.1 (.seq 5 (rest.map dNd)) [z.2.2.2.2]) (fun z => m - z.1) (0,H,.slice none 0 0,[],_) (fun _ s => s) ⟨rfl,rfl,trivial⟩ ⟨by simp,.refl,[],l.drop 1,rfl,RepZ.nil,goodEs_nil d,rfl,(by rw [Ex.counts,List.length_drop,List.length_nil];omega),(by have h5 := rep_drop h (lo := 1) (by omega);rw [← List.map_drop] at h5;exact h5)⟩ fun z hC => ?_
  obtain ⟨k,H1,r,xs,rv⟩ := z;dsimp only at hC ⊢;obtain ⟨hk0,u1,es,rest,hlen,hz,hgs,h13,hcn,hrs⟩ := hC;refine .sq<|.sr<|.m Z Z<|.m Z Z<|.yv (.lss Z Z) Z<|.nt<|.cd Z (fun h72 => ?_) (fun h72 => ?_)
  ·try simp only [dt] at h72
   have hk : k < m := by omega
   refine .sk<|.tN<|.sq<|.bk<|.sr<|.m Z Z<|.m Z Z<|.yv (.add Z Z (w6 (by omega))) Z<|.ct (X := List Value × Value) Fx.call169 Z (fun W s => ih (f - 1) (by omega) (d + 1) (by omega) H1 _ _ W hrs s.agr) Z fun y2 H2 hc2 u2 => ?_
   obtain ⟨x2,y2⟩ := y2;obtain ⟨x2e,rest2,hc2,hg2,h132,hcn2,hrs2⟩ := hc2;dsimp only at hc2 hrs2 ⊢;obtain ⟨op2,nm2,n2,args2⟩ := x2e;obtain ⟨p2,c2,rfl,hs2,hnm2⟩ := ex_open hc2;refine .m Z Z<|.yv (.extract Z Z) Z<|.yv (.extract Z Z) Z<|.al Fx.zero83 Z fun b10 => .sW .head Z Z Fx.size83 (by simp [Value.oneCell',strV,cNd]) Z<|.a Z Z<|.nt<|.rg<|.yv (.fieldAddr Z Fx.field83_3) Z<|.yv (.load Z Fx.agg24 (.tail _<|.tail _<|.head _) Z) Z<|.yv (.loadW Z Fx.agg83 (.head _) Z) Z<|.bl Z (Fx.bsl24_1 _ _ _ _) Z fun b85 => .ap (news := [.int .i64 op2.toNat,strV nm2,.int .i64 n2.toInt,.slice p2 args2.length c2]) Fx.row24 Z (fun _ => (.tail<|.tail<|.head)) Z (.box (.head _) z0) Z (by simp [Value.oneCell',strV]) (by simp [maxLen];omega) (by omega) Z fun r86 _ => ?_
   refine At.ra (by first | exact .tail _ (.tail _ (.head _)) | exact .tail _ (.tail _ (.tail _ (.head _)))) fun p86 c86 e86 => ?_;exact .m Z Z<|.yv (.fieldAddr Z Fx.field83_3) Z<|.st (.tail<|.tail<|.tail<|.head) Z Z Fx.size24 (by rw [e86];rfl) (nb Z) Z<|.a Z Z<|.nl<|.bN<|.tN<|.rg<|.m Z Z<|.yv (.add Z Z (w6 (by omega))) Z<|.a Z Z<|.nt<|.ag (x := (k,H1,r,xs,rv)) (k + 1,H2,r86,xs ++ [.int .i64 op2.toNat,strV nm2,.int .i64 n2.toInt,.slice p2 args2.length c2],y2) ⟨rfl,rfl,trivial⟩ ⟨rfl,rfl,rfl,rfl,trivial⟩ (fun _ s => (s.pick [2,3,4,5] _ Z Z)) ⟨by dsimp only;omega,u1.trans u2,es ++ [.mk op2 nm2 n2 args2],rest2,by simp;omega,by rw [List.map_append];exact (hz.up u2.up).snoc hc2 Z,goodEs_snoc hgs hg2,(by rw [alls_app,h13,Ex.alls,h132];rfl),(by rw [ex_counts_app,Ex.counts,Ex.counts,List.length_append];simp only [List.length_cons,List.length_nil];omega),hrs2⟩ (by dsimp only;omega)
  try simp only [df] at h72
  obtain rfl : k = m := by omega
  refine At.ra (.head _) fun p86 c86 e86 => ?_;subst e86;refine .ex<|.tE<|.tE<|.bE<|.tN<|.sr<|.yv (.loadW Z Fx.agg83 (.tail _<|.head _) Z) Z<|.m Z Z<|.sW (.tail<|.tail<|.tail<|.head) Z Z Fx.size83 (by simp [Value.oneCell',strV,cNd]) Z<|.a Z Z<|.nt<|.rt<|?_
  refine At.pm [0,3] [_,_] rfl rfl ?_;refine Sx.freezeSeq (ds := es.map (dEx .i64)) (by simp;omega) hz fun H3 p3 c3 u3 hr3 hs3 => ?_;refine Sx.retN (.inl rfl) rfl (.cons (.cell rfl Fx.agg83 (.head _) rfl) (.cons (.tmp rfl) .nil)) rfl fun W s => ⟨(_,_),H3,⟨_,rest,ex_shut (by omega) hs3,?_,?_,?_,hrs.up u3.up⟩,rfl,(u1.trans u3).grow s⟩
  ·rw [goodE_mk];exact ⟨by omega,hgs⟩
  ·rw [all_mk,h13,Bool.and_true];exact decide_eq_true hnm
  ·rw [ex_count];omega
def BuiltX (x : List Value) (H' : Hp) : Prop := ∃ e : Ex,Rep H' (dEx .i64 e) x ∧ goodE 1 e ∧ Ex.all n13 e = true ∧ e.count ≤ 181
theorem ex_len7 {H : Hp} {k : IntKind} {e : Ex} {cs : List Value} (h : Rep H (dEx k e) cs) : cs.length = 4 := by
 obtain ⟨op,nm,n,args⟩ := e;obtain ⟨_,_,rfl,_,_⟩ := ex_open h
 rfl
set_option maxRecDepth 100000 in
theorem buildX_any (H : Hp) (l : List Nd) (v : Value) (h0 : Rep H (.seq 5 (l.map dNd)) [v]) (w : World) (hA : Agr H w) :
 Calls Tryz.prog 130 #[v] w fun r w' => ∃ (x : List Value) (H' : Hp),BuiltX x H' ∧ r = .returned (.agg x.toArray) ∧ Grow H w H' w' := by
 obtain ⟨p,c,e,_⟩ := h0.sl;simp only [List.cons.injEq,and_true,List.length_map] at e;subst e;have h := h0;have hcap := h.cap;refine Sx.enter (H := H) Tryz.func130 rfl Tryz.ntmps130 rfl hA ?_;refine .sr<|.al Fx.zero83 Z fun b2 => .ns<|.m Z Z<|.m Z Z<|.yv (.lenSl Fx.sl149 Z) Z<|.yv (.min2 Z Z (c := ((min l.length 60 : Nat) : Int)) (by omega)) Z<|.yv (.cutHi2 Fx.sl149 Z Z (h := min l.length 60) Z (by have := h.len.2.1;omega)) Z<|.ct (X := List Value × Value) Fx.call169 Z (fun W s => buildC_any 30 1 Z H (l.take (min l.length 60)) _ W (by rw [List.map_take];exact rep_take2 h (by omega)) s.agr) Z fun y H1 hc u1 => ?_
 obtain ⟨x,y⟩ := y;obtain ⟨e,rest,hx,hg,h13,hcn,_⟩ := hc;dsimp only at hx;rw [List.length_take] at hcn;refine .m Z Z<|.yv (.extract Z Z) Z<|.yv (.extract Z Z) Z<|.al Fx.zero83 Z fun b3 => .sV .head Z Z Fx.size83 (ex_len7 hx) hx.one Z<|.a Z Z<|.ns<|.yv (.loadW Z Fx.agg83 (.head _) (ex_len7 hx)) Z<|.sV (.tail<|.head) Z Z Fx.size83 (ex_len7 hx) hx.one Z<|.nt<|.rt<|?_
 exact Sx.ret1 (.inl rfl) rfl (.cell rfl Fx.agg83 (.tail _<|.head _) (ex_len7 hx)) fun W t => ⟨x,H1,⟨e,hx,hg,h13,by omega⟩,rfl,u1.grow t⟩
def blkB (c : UInt8) : Bool := decide (c = 32) || decide (c = 9) || decide (c = 10) || decide (c = 13)
def skipS : Bool → Str → Str
 | _,[] => []
 | true,c :: r => if c = 10 then skipS false r else skipS true r
 | false,c :: r => if blkB c then skipS false r else if c = 47 ∧ r.head? = some 47 then skipS true r else c :: r
theorem skipS_nil (b : Bool) : skipS b [] = [] := by cases b <;> rfl
theorem skipS_com {c : UInt8} {r : Str} (h : ¬ c = 10) : skipS true (c :: r) = skipS true r := by rw [skipS,if_neg h]
theorem skipS_end (r : Str) : skipS true (10 :: r) = skipS false (10 :: r) := by rw [skipS,if_pos rfl,skipS,if_pos (by decide)]
theorem skipS_blk {c : UInt8} {r : Str} (h : blkB c = true) : skipS false (c :: r) = skipS false r := by rw [skipS,if_pos h]
theorem skipS_two (r : Str) : skipS false (47 :: 47 :: r) = skipS true (47 :: 47 :: r) := by simp [skipS,blkB]
theorem skipS_stop {c : UInt8} {r : Str} (h : blkB c = false) (h2 : ¬ (c = 47 ∧ r.head? = some 47)) : skipS false (c :: r) = c :: r := by rw [skipS,if_neg (by simp [h]),if_neg h2]
theorem skipS_suf : ∀ (l : Str) (b : Bool),∃ p,l = p ++ skipS b l
 | [],b => ⟨[],by rw [skipS_nil];rfl⟩
 | c :: r,true => by
  rw [skipS]
  split
  ·obtain ⟨p,h⟩ := skipS_suf r false;exact ⟨c :: p,by rw [List.cons_append,← h]⟩
  ·obtain ⟨p,h⟩ := skipS_suf r true;exact ⟨c :: p,by rw [List.cons_append,← h]⟩
 | c :: r,false => by
  rw [skipS]
  split
  ·obtain ⟨p,h⟩ := skipS_suf r false;exact ⟨c :: p,by rw [List.cons_append,← h]⟩
  ·split
   ·obtain ⟨p,h⟩ := skipS_suf r true;exact ⟨c :: p,by rw [List.cons_append,← h]⟩
   ·exact ⟨[],rfl⟩
theorem skipS_len (b : Bool) (l : Str) : (skipS b l).length ≤ l.length := by
 obtain ⟨p,h⟩ := skipS_suf l b;have := congrArg List.length h;rw [List.length_append] at this;omega
theorem skipS_drop (b : Bool) (l : Str) : l.drop (l.length - (skipS b l).length) = skipS b l := by
 obtain ⟨p,h⟩ := skipS_suf l b;generalize skipS b l = q at h;subst h;rw [show (p ++ q).length - q.length = p.length by rw [List.length_append];omega,List.drop_left]
theorem readK_bnd {l : Str} (h : l ≠ []) : 1 ≤ (readK l).2 ∧ (readK l).2 ≤ l.length := by
 match l,h with
 | c :: r,_ =>
  have hp : ∀ q : UInt8 → Bool,q c = true → 1 ≤ pre q (c :: r) := fun q hq => by unfold pre;rw [List.takeWhile_cons,hq];simp
  cases h1 : letB c with
  | true =>
   have h2 := hp insB (by simp [insB,h1]);have h3 := pre_le insB (c :: r);cases h4 : words.contains ((c :: r).take (pre insB (c :: r))) with
   | true => simp only [readK,List.headD_cons,h1,h4,if_true];exact ⟨h2,h3⟩
   | false =>
    by_cases h5 : pre insB (c :: r) ≤ 12
    ·simp only [readK,List.headD_cons,h1,h4,h5,if_true,Bool.false_eq_true,if_false];exact ⟨h2,h3⟩
    ·simp only [readK,List.headD_cons,h1,h4,h5,if_true,Bool.false_eq_true,if_false];simp
  | false =>
   cases h4 : digB c with
   | true =>
    have h2 := hp digB h4;have h3 := pre_le digB (c :: r)
    by_cases h5 : pre digB (c :: r) = 1 ∨ c ≠ 48
    ·simp only [readK,List.headD_cons,h1,h4,h5,if_true,Bool.false_eq_true,if_false];exact ⟨h2,h3⟩
    ·simp only [readK,List.headD_cons,h1,h4,h5,if_true,Bool.false_eq_true,if_false];simp
   | false =>
    cases hx : symbols.find? (fun x => x.isPrefixOf (c :: r)) with
    | none => simp only [readK,List.headD_cons,h1,h4,hx,Bool.false_eq_true,if_false];simp
    | some x =>
     have hm := List.mem_of_find?_eq_some hx;have hpx := List.find?_some hx
     have hl : x.length ≤ (c :: r).length := by
      obtain ⟨t,ht⟩ := List.isPrefixOf_iff_prefix.1 hpx;rw [← ht];simp
     have key : ∀ y ∈ symbols,1 ≤ y.length := by decide
     simp only [readK,List.headD_cons,h1,h4,hx,Bool.false_eq_true,if_false];exact ⟨key x hm,hl⟩
theorem readK_one {c : UInt8} {r : Str} (h : (readK (c :: r)).1 = 1) : letB c = true := by
 cases h1 : letB c with
 | true => rfl
 | false =>
  cases h4 : digB c with
  | true =>
   by_cases h5 : pre digB (c :: r) = 1 ∨ c ≠ 48
   ·simp only [readK,List.headD_cons,h1,h4,h5,if_true,Bool.false_eq_true,if_false] at h;simp at h
   ·simp only [readK,List.headD_cons,h1,h4,h5,if_true,Bool.false_eq_true,if_false] at h;simp at h
  | false =>
   cases hx : symbols.find? (fun x => x.isPrefixOf (c :: r)) <;> simp only [readK,List.headD_cons,h1,h4,hx,Bool.false_eq_true,if_false] at h <;> simp at h
structure Tk where
 k : UInt8
 t : Str
 o : Nat
def dTk (k : IntKind) (x : Tk) : D := .str [.val (.int k x.k.toNat),.val (strV x.t),.val (.int .i64 (x.o : Nat))]
def cTk (k : IntKind) (x : Tk) : List Value := [.int k x.k.toNat,strV x.t,.int .i64 (x.o : Nat)]
theorem tk_open {H : Hp} {k : IntKind} {x : Tk} {cs : List Value} (h : Rep H (dTk k x) cs) : cs = cTk k x ∧ x.t.length ≤ 1000000 := by
 rw [dTk,repS] at h;obtain ⟨_,rfl,_,_,h⟩ := repL_val.1 h;obtain ⟨_,rfl,_,k0,h⟩ := repL_val.1 h;obtain ⟨_,rfl,_,_,h⟩ := repL_val.1 h;rw [repL_nil] at h;subst h;exact ⟨rfl,okS.1 k0⟩
theorem tk_shut {H : Hp} {k : IntKind} {x : Tk} (h : x.t.length ≤ 1000000) : Rep H (dTk k x) (cTk k x) := by
 rw [dTk,repS];exact repL_val.2 ⟨_,rfl,rfl,trivial,repL_val.2 ⟨_,rfl,rfl,okS.2 h,repL_val.2 ⟨_,rfl,rfl,trivial,repL_nil.2 rfl⟩⟩⟩
def tokF : Nat → Nat → Str → List Tk
 | 0,_,_ => []
 | f + 1,o,m => if m = [] then [] else ⟨(readK m).1,m.take (readK m).2,o⟩ :: tokF f (o + (m.length - (skipS false (m.drop (readK m).2)).length)) (skipS false (m.drop (readK m).2))
def lexR (s : Str) : List Tk := tokF (s.length + 1) (s.length - (skipS false s).length) (skipS false s)
theorem tokF_step {f o : Nat} {m : Str} (h : m ≠ []) : tokF (f + 1) o m = ⟨(readK m).1,m.take (readK m).2,o⟩ :: tokF f (o + (m.length - (skipS false (m.drop (readK m).2)).length)) (skipS false (m.drop (readK m).2)) := by rw [tokF,if_neg h]
theorem tokF_nil (f o : Nat) : tokF f o [] = [] := by cases f <;> simp [tokF]
theorem tokF_more : ∀ (f g o : Nat) (m : Str),m.length < f → m.length < g → tokF f o m = tokF g o m
 | 0,_,_,_,h,_ => by omega
 | _,0,_,_,_,h => by omega
 | f + 1,g + 1,o,m,h,k => by
  by_cases h0 : m = []
  ·subst h0;rw [tokF_nil,tokF_nil]
  ·rw [tokF_step h0,tokF_step h0];have hr := readK_bnd h0;have hs := skipS_len false (m.drop (readK m).2);rw [List.length_drop] at hs;rw [tokF_more f g _ _ (by omega) (by omega)]
end Go.Proofs.YtidclioghdbphaaGreatDoor
namespace Go.Proofs.YtidclioghdbphaaGreatDoor
inductive Rs (α : Type) where
 | ok (a : α) (r : List Tk)
 | er (r : List Tk) (code : Nat)
def Rs.bind {α β : Type} (x : Rs α) (f : α → List Tk → Rs β) : Rs β := match x with | .ok a r => f a r | .er r c => .er r c
def isT (w : Str) : List Tk → Bool
 | [] => false
 | t :: _ => (t.k == 2 || t.k == 4) && decide (t.t = w)
def needT {α : Type} (w : Str) (r : List Tk) (f : List Tk → Rs α) : Rs α := if isT w r then f r.tail else .er r 8
def nameT {α : Type} (r : List Tk) (f : Str → List Tk → Rs α) : Rs α := match r with | [] => .er r 8 | t :: q => if t.k = 1 then f t.t q else .er r 8
def numV (s : Str) : Nat := s.foldl (fun v c => 10 * v + (c.toNat - 48)) 0
def opsL : Nat → List (Str × UInt8)
 | 0 => [([111,114],23)]
 | 1 => [([97,110,100],22)]
 | 2 => [([61,61],16),([33,61],17),([60],18),([60,61],19),([62],20),([62,61],21)]
 | 3 => [([43],14),([45],15)]
 | _ => [([42],11),([47],12),([37],13)]
def opAt (lv : Nat) (r : List Tk) : Option UInt8 := ((opsL lv).find? fun x => isT x.1 r).map (·.2)
inductive Md where
 | ex (lv : Nat)
 | lp (lv : Nat) (a : Ex)
def opE (op : UInt8) (l : List Ex) : Ex := .mk op [] 0 l
def primE (rec : List Tk → Rs Ex) (r : List Tk) : Rs Ex :=
 match r with
 | [] => .er r 8
 | t :: q =>
  if t.k = 3 then (if numV t.t ≤ 9223372036854775807 then .ok (.mk 1 [] (Int64.ofNat (numV t.t)) []) q else .er r 2)
  else if isT [116,114,117,101] r then .ok (opE 2 []) q
  else if isT [102,97,108,115,101] r then .ok (opE 3 []) q
  else if isT [110,111,119] r then .ok (opE 4 []) q
  else if isT [115,105,122,101] r then nameT q fun s r2 => .ok (.mk 8 s 0 []) r2
  else if isT [40] r then (rec q).bind fun x r2 => needT [41] r2 fun r3 => .ok x r3
  else if isT [104,97,115] r then nameT q fun s r2 => needT [91] r2 fun r3 => (rec r3).bind fun x r4 => needT [93] r4 fun r5 => .ok (.mk 7 s 0 [x]) r5
  else if t.k = 1 then (if isT [91] q then (rec q.tail).bind fun x r4 => needT [93] r4 fun r5 => .ok (.mk 6 t.t 0 [x]) r5 else .ok (.mk 5 t.t 0 []) q)
  else .er r 8
def pE : Nat → Md → List Tk → Rs Ex
 | 0,_,r => .er r 99
 | f + 1,.ex lv,r =>
  if lv < 5 then (pE f (.ex (lv + 1)) r).bind fun a r1 => pE f (.lp lv a) r1
  else if isT [45] r then (pE f (.ex 5) r.tail).bind fun x r2 => .ok (opE 9 [x]) r2
  else if isT [110,111,116] r then (pE f (.ex 5) r.tail).bind fun x r2 => .ok (opE 10 [x]) r2
  else primE (pE f (.ex 0)) r
 | f + 1,.lp lv a,r =>
  match opAt lv r with
  | none => .ok a r
  | some op => (pE f (.ex (lv + 1)) r.tail).bind fun b r2 => if lv = 2 then .ok (opE op [a,b]) r2 else pE f (.lp lv (opE op [a,b])) r2
/-! ### Enough fuel -/
theorem ifC {α : Type} {c : Prop} [Decidable c] {x y u v : α} (h1 : x = u) (h2 : y = v) : (if c then x else y) = (if c then u else v) := by rw [h1,h2]
theorem ifI {α : Type} {c d : Prop} [Decidable c] [Decidable d] {x y : α} (h : c ↔ d) : (if c then x else y) = (if d then x else y) := by
 by_cases e : c
 ·rw [if_pos e,if_pos (h.1 e)]
 ·rw [if_neg e,if_neg (fun k => e (h.2 k))]
theorem isT_ne {w : Str} {r : List Tk} (h : isT w r = true) : r.length = r.tail.length + 1 := by cases r with | nil => cases h | cons t q => rfl
theorem opAt_ne {lv : Nat} {r : List Tk} {op : UInt8} (h : opAt lv r = some op) : r.length = r.tail.length + 1 := by
 unfold opAt at h;obtain ⟨x,hx,_⟩ := Option.map_eq_some_iff.1 h;exact isT_ne (w := x.1) (by have := List.find?_some hx;exact this)
theorem Rs.bind_ok {α β : Type} {x : Rs α} {f : α → List Tk → Rs β} {b : β} {r : List Tk} (h : x.bind f = .ok b r) : ∃ a q,x = .ok a q ∧ f a q = .ok b r := by
 cases x with
 | ok a q => exact ⟨a,q,rfl,h⟩
 | er q c => cases h
theorem needT_ok {α : Type} {w : Str} {r : List Tk} {f : List Tk → Rs α} {a : α} {q : List Tk} (h : needT w r f = .ok a q) : isT w r = true ∧ f r.tail = .ok a q := by
 unfold needT at h
 split at h
 ·rename_i e;exact ⟨e,h⟩
 ·cases h
theorem nameT_ok {α : Type} {r : List Tk} {f : Str → List Tk → Rs α} {a : α} {q : List Tk} (h : nameT r f = .ok a q) : ∃ t r',r = t :: r' ∧ t.k = 1 ∧ f t.t r' = .ok a q := by
 unfold nameT at h;cases r with
 | nil => cases h
 | cons t r' =>
  by_cases e : t.k = 1
  ·simp only [e,if_true] at h;exact ⟨t,r',rfl,e,h⟩
  ·simp only [e,if_false] at h;cases h
theorem primE_len {rec : List Tk → Rs Ex} (hr : ∀ q a r',rec q = .ok a r' → r'.length ≤ q.length) {r : List Tk} {a : Ex} {r' : List Tk} (h : primE rec r = .ok a r') : r'.length < r.length := by
 unfold primE at h;cases r with
 | nil => cases h
 | cons t q =>
  simp only at h
  have fin : ∀ {b : Ex} {l : List Tk},(Rs.ok b l : Rs Ex) = .ok a r' → l.length ≤ q.length → r'.length < (t :: q).length := by
   intro b l e hl;injection e with _ e;subst e;simp;omega
  split at h
  ·split at h
   ·exact fin h (Nat.le_refl _)
   ·cases h
  split at h
  ·exact fin h (Nat.le_refl _)
  split at h
  ·exact fin h (Nat.le_refl _)
  split at h
  ·exact fin h (Nat.le_refl _)
  split at h
  ·obtain ⟨t2,r2,rfl,_,h⟩ := nameT_ok h;exact fin h (by simp)
  split at h
  ·obtain ⟨x,r2,h1,h⟩ := Rs.bind_ok h;obtain ⟨h2,h⟩ := needT_ok h;have := hr _ _ _ h1;have := isT_ne h2;exact fin h (by omega)
  split at h
  ·obtain ⟨t2,r2,rfl,_,h⟩ := nameT_ok h;obtain ⟨h2,h⟩ := needT_ok h;obtain ⟨x,r4,h1,h⟩ := Rs.bind_ok h;obtain ⟨h3,h⟩ := needT_ok h;have := hr _ _ _ h1;have := isT_ne h2;have := isT_ne h3;exact fin h (by simp;omega)
  split at h
  ·split at h
   ·rename_i h2;obtain ⟨x,r4,h1,h⟩ := Rs.bind_ok h;obtain ⟨h3,h⟩ := needT_ok h;have := hr _ _ _ h1;have := isT_ne h2;have := isT_ne h3;exact fin h (by omega)
   ·exact fin h (Nat.le_refl _)
  ·cases h
theorem pE_len : ∀ (f : Nat),(∀ lv r a r',pE f (.ex lv) r = .ok a r' → r'.length < r.length) ∧ (∀ lv x r a r',pE f (.lp lv x) r = .ok a r' → r'.length ≤ r.length)
 | 0 => ⟨fun _ _ _ _ h => (by cases h),fun _ _ _ _ _ h => (by cases h)⟩
 | f + 1 => by
  obtain ⟨ih1,ih2⟩ := pE_len f;refine ⟨fun lv r a r' h => ?_,fun lv x r a r' h => ?_⟩
  ·unfold pE at h
   split at h
   ·obtain ⟨b,q,h1,h2⟩ := Rs.bind_ok h;have := ih1 _ _ _ _ h1;have := ih2 _ _ _ _ _ h2;omega
   split at h
   ·rename_i e;obtain ⟨b,q,h1,h2⟩ := Rs.bind_ok h;have := ih1 _ _ _ _ h1;have := isT_ne e;injection h2 with _ e2;subst e2;omega
   split at h
   ·rename_i e;obtain ⟨b,q,h1,h2⟩ := Rs.bind_ok h;have := ih1 _ _ _ _ h1;have := isT_ne e;injection h2 with _ e2;subst e2;omega
   ·exact primE_len (fun q b r2 e => Nat.le_of_lt (ih1 _ _ _ _ e)) h
  ·unfold pE at h
   split at h
   ·injection h with _ e;subst e;exact Nat.le_refl _
   ·rename_i op e;obtain ⟨b,q,h1,h2⟩ := Rs.bind_ok h;have := ih1 _ _ _ _ h1;have := opAt_ne e
    split at h2
    ·injection h2 with _ e2;subst e2;omega
    ·have := ih2 _ _ _ _ _ h2;omega
theorem Rs.bind_congr {α β : Type} {x y : Rs α} {f g : α → List Tk → Rs β} (h : x = y) (k : ∀ a r,x = .ok a r → f a r = g a r) : x.bind f = y.bind g := by
 subst h;cases x with
 | ok a r => exact k a r rfl
 | er r c => rfl
theorem primE_congr {rec rec' : List Tk → Rs Ex} {r : List Tk} (h : ∀ q,q.length < r.length → rec q = rec' q) : primE rec r = primE rec' r := by
 unfold primE;cases r with
 | nil => rfl
 | cons t q =>
  have hb : ∀ (z : List Tk) (g : Ex → List Tk → Rs Ex),z.length ≤ q.length → (rec z).bind g = (rec' z).bind g := fun z g hz => by rw [h z (by simp;omega)]
  have ht : ∀ z : List Tk,z.tail.length ≤ z.length := fun z => by simp
  simp only;rw [hb q _ (Nat.le_refl _),hb q.tail _ (ht q)];refine ifC rfl (ifC rfl (ifC rfl (ifC rfl (ifC rfl (ifC rfl (ifC ?_ rfl))))));unfold nameT;cases q with
  | nil => rfl
  | cons t2 r2 =>
   simp only;refine ifC ?_ rfl;unfold needT;refine ifC ?_ rfl;exact hb _ _ (by simp;omega)
def fuelE : Md → List Tk → Nat
 | .ex lv,r => 16 * r.length + 9 - lv
 | .lp _ _,r => 16 * r.length + 9
theorem pE_ex (f lv : Nat) (r : List Tk) : pE (f + 1) (.ex lv) r = if lv < 5 then (pE f (.ex (lv + 1)) r).bind fun a r1 => pE f (.lp lv a) r1
 else if isT [45] r then (pE f (.ex 5) r.tail).bind fun x r2 => .ok (opE 9 [x]) r2
 else if isT [110,111,116] r then (pE f (.ex 5) r.tail).bind fun x r2 => .ok (opE 10 [x]) r2
 else primE (pE f (.ex 0)) r := by rw [pE]
theorem pE_lp (f lv : Nat) (a : Ex) (r : List Tk) : pE (f + 1) (.lp lv a) r = match opAt lv r with
 | none => .ok a r
 | some op => (pE f (.ex (lv + 1)) r.tail).bind fun b r2 => if lv = 2 then .ok (opE op [a,b]) r2 else pE f (.lp lv (opE op [a,b])) r2 := by rw [pE]
theorem pE_fuel : ∀ (f : Nat),(∀ lv r,lv ≤ 5 → fuelE (.ex lv) r ≤ f → pE (f + 1) (.ex lv) r = pE f (.ex lv) r) ∧ (∀ lv x r,lv ≤ 4 → fuelE (.lp lv x) r ≤ f → pE (f + 1) (.lp lv x) r = pE f (.lp lv x) r)
 | 0 => ⟨fun lv r h1 h => by simp only [fuelE] at h;omega,fun lv x r h1 h => by simp only [fuelE] at h;omega⟩
 | f + 1 => by
  obtain ⟨ih1,ih2⟩ := pE_fuel f;simp only [fuelE] at ih1 ih2 ⊢;refine ⟨fun lv r h5 h => ?_,fun lv x r h4 h => ?_⟩
  ·rw [pE_ex (f + 1) lv r,pE_ex f lv r]
   by_cases hlv : lv < 5
   ·rw [if_pos hlv,if_pos hlv];refine Rs.bind_congr (ih1 _ _ (by omega) (by omega)) fun a q e => ?_;have := (pE_len (f + 1)).1 _ _ _ _ e;exact ih2 _ _ _ (by omega) (by omega)
   rw [if_neg hlv,if_neg hlv]
   by_cases e : isT [45] r = true
   ·have := isT_ne e;rw [if_pos e,if_pos e];exact Rs.bind_congr (ih1 _ _ (by omega) (by omega)) fun _ _ _ => rfl
   rw [if_neg e,if_neg e]
   by_cases e : isT [110,111,116] r = true
   ·have := isT_ne e;rw [if_pos e,if_pos e];exact Rs.bind_congr (ih1 _ _ (by omega) (by omega)) fun _ _ _ => rfl
   rw [if_neg e,if_neg e];exact primE_congr fun q hq => ih1 _ _ (by omega) (by omega)
  ·rw [pE_lp (f + 1) lv x r,pE_lp f lv x r];cases e : opAt lv r with
   | none => rfl
   | some op =>
    simp only;have := opAt_ne e;refine Rs.bind_congr (ih1 _ _ (by omega) (by omega)) fun a q e => ?_;have := (pE_len (f + 1)).1 _ _ _ _ e;refine ifC rfl ?_;exact ih2 _ _ _ (by omega) (by omega)
theorem pE_more {f g lv : Nat} {r : List Tk} (h5 : lv ≤ 5) (h : fuelE (.ex lv) r ≤ f) (hg : f ≤ g) : pE g (.ex lv) r = pE f (.ex lv) r := by
 induction g with
 | zero => have : f = 0 := by omega
           rw [this]
 | succ g ih =>
  by_cases e : f = g + 1
  ·rw [e]
  ·rw [(pE_fuel g).1 lv r h5 (by omega)];exact ih (by omega)
theorem pE_morel {f g lv : Nat} {a : Ex} {r : List Tk} (h5 : lv ≤ 4) (h : fuelE (.lp lv a) r ≤ f) (hg : f ≤ g) : pE g (.lp lv a) r = pE f (.lp lv a) r := by
 induction g with
 | zero => have : f = 0 := by omega
           rw [this]
 | succ g ih =>
  by_cases e : f = g + 1
  ·rw [e]
  ·rw [(pE_fuel g).2 lv a r h5 (by omega)];exact ih (by omega)
def pX (lv : Nat) (r : List Tk) : Rs Ex := pE (16 * r.length + 9) (.ex lv) r
def pL (lv : Nat) (a : Ex) (r : List Tk) : Rs Ex := pE (16 * r.length + 9) (.lp lv a) r
theorem pX_of {f lv : Nat} {r : List Tk} (h5 : lv ≤ 5) (h : fuelE (.ex lv) r ≤ f) : pE f (.ex lv) r = pX lv r := by
 unfold pX;rcases Nat.le_total f (16 * r.length + 9) with h1 | h1
 ·rw [pE_more h5 h h1]
 ·rw [pE_more h5 (by simp only [fuelE];omega) h1]
theorem pL_of {f lv : Nat} {a : Ex} {r : List Tk} (h5 : lv ≤ 4) (h : fuelE (.lp lv a) r ≤ f) : pE f (.lp lv a) r = pL lv a r := by
 unfold pL;rcases Nat.le_total f (16 * r.length + 9) with h1 | h1
 ·rw [pE_morel h5 h h1]
 ·rw [pE_morel h5 (by simp only [fuelE];omega) h1]
theorem pX_low {lv : Nat} {r : List Tk} (h : lv < 5) : pX lv r = (pX (lv + 1) r).bind fun a q => pL lv a q := by
 conv => lhs;unfold pX
 rw [show 16 * r.length + 9 = (16 * r.length + 8) + 1 by omega,pE_ex,if_pos h];refine Rs.bind_congr (pX_of (by omega) (by simp only [fuelE];omega)) fun a q e => ?_;have := (pE_len _).1 _ _ _ _ e;exact pL_of (by omega) (by simp only [fuelE];omega)
theorem pX_un {r : List Tk} : pX 5 r = if isT [45] r then (pX 5 r.tail).bind fun x r2 => .ok (opE 9 [x]) r2 else if isT [110,111,116] r then (pX 5 r.tail).bind fun x r2 => .ok (opE 10 [x]) r2 else primE (pX 0) r := by
 conv => lhs;unfold pX
 rw [show 16 * r.length + 9 = (16 * r.length + 8) + 1 by omega,pE_ex,if_neg (by omega)]
 by_cases e : isT [45] r = true
 ·have := isT_ne e;rw [if_pos e,if_pos e];exact Rs.bind_congr (pX_of (by omega) (by simp only [fuelE];omega)) fun _ _ _ => rfl
 rw [if_neg e,if_neg e]
 by_cases e : isT [110,111,116] r = true
 ·have := isT_ne e;rw [if_pos e,if_pos e];exact Rs.bind_congr (pX_of (by omega) (by simp only [fuelE];omega)) fun _ _ _ => rfl
 rw [if_neg e,if_neg e];exact primE_congr fun q hq => pX_of (by omega) (by simp only [fuelE];omega)
theorem pL_none {lv : Nat} {a : Ex} {r : List Tk} (h : opAt lv r = none) : pL lv a r = .ok a r := by
 unfold pL;rw [show 16 * r.length + 9 = (16 * r.length + 8) + 1 by omega,pE_lp];rw [h]
theorem pL_some {lv : Nat} {a : Ex} {r : List Tk} {op : UInt8} (hl : lv ≤ 4) (h : opAt lv r = some op) : pL lv a r = (pX (lv + 1) r.tail).bind fun b r2 => if lv = 2 then .ok (opE op [a,b]) r2 else pL lv (opE op [a,b]) r2 := by
 conv => lhs;unfold pL
 rw [show 16 * r.length + 9 = (16 * r.length + 8) + 1 by omega,pE_lp];rw [h];have := opAt_ne h;refine Rs.bind_congr (pX_of (by omega) (by simp only [fuelE];omega)) fun b q e => ?_;have := (pE_len _).1 _ _ _ _ e;refine ifC rfl ?_;exact pL_of hl (by simp only [fuelE];omega)
end Go.Proofs.YtidclioghdbphaaGreatDoor
namespace Go.Plain
open Go.Lib

theorem digits_more (x : Nat) (h : ¬ x < 10) : decDigits x = decDigits (x / 10) ++ [UInt8.ofNat (48 + x % 10)] := by
 rw [decDigits,dif_neg h]
theorem digit_nat (d : Nat) (h : d < 10) : (UInt8.ofNat (48 + d)).toNat = 48 + d := by
 rw [UInt8.toNat_ofNat'];omega
theorem digits_are : ∀ (u : Nat) (c : UInt8),c ∈ decDigits u → 48 ≤ c.toNat ∧ c.toNat ≤ 57 := by
 intro u;induction u using Nat.strongRecOn with
 | _ u ih =>
  intro c hc
  by_cases h : u < 10
  ·rw [decDigits_one h] at hc;obtain rfl := List.mem_singleton.1 hc;rw [digit_nat u h];omega
  ·rw [digits_more u h] at hc;rcases List.mem_append.1 hc with hc | hc
   ·exact ih (u / 10) (by omega) c hc
   ·obtain rfl := List.mem_singleton.1 hc;rw [digit_nat (u % 10) (by omega)];omega
end Go.Plain
namespace Go.Proofs.YtidclioghdbphaaGreatDoor
abbrev Kt := UInt8 × Str
def kt (t : Tk) : Kt := (t.k,t.t)
def isK (w : Str) (x : Kt) : Bool := (x.1 == 2 || x.1 == 4) && decide (x.2 = w)
def opK (lv : Nat) (x : Kt) : Option UInt8 := ((opsL lv).find? fun y => isK y.1 x).map (·.2)
theorem isT_cons (w : Str) (t : Tk) (r : List Tk) : isT w (t :: r) = isK w (kt t) := rfl
theorem opAt_cons (lv : Nat) (t : Tk) (r : List Tk) : opAt lv (t :: r) = opK lv (kt t) := rfl
def parK (n lv : Nat) (l : List Kt) : List Kt := if lv < n then (4,[40]) :: (l ++ [(4,[41])]) else l
def symK (op : UInt8) : Kt := (if op = 22 ∨ op = 23 then 2 else 4,((shapeOf op).tx.drop 1).dropLast)
def ktx (op : UInt8) (nm : Str) (n : Int64) (ls : List (Nat × List Kt)) : List Kt :=
 if op = 1 then [(3,Lib.itoa n.toInt)]
 else if op = 5 then [(1,nm)]
 else if op = 8 then [(2,[115,105,122,101]),(1,nm)]
 else if op = 6 then (1,nm) :: (4,[91]) :: ((ls.getD 0 (0,[])).2 ++ [(4,[93])])
 else if op = 7 then (2,[104,97,115]) :: (1,nm) :: (4,[91]) :: ((ls.getD 0 (0,[])).2 ++ [(4,[93])])
 else if op = 9 then (4,[45]) :: parK 6 (ls.getD 0 (0,[])).1 (ls.getD 0 (0,[])).2
 else if op = 10 then (2,[110,111,116]) :: parK 6 (ls.getD 0 (0,[])).1 (ls.getD 0 (0,[])).2
 else if (shapeOf op).n = 0 then [(2,(shapeOf op).tx)]
 else parK (lftT (shapeOf op).lv) (ls.getD 0 (0,[])).1 (ls.getD 0 (0,[])).2 ++ symK op :: parK ((shapeOf op).lv + 1) (ls.getD 1 (0,[])).1 (ls.getD 1 (0,[])).2
mutual
def ktE : Ex → List Kt
 | .mk op nm n args => ktx op nm n (ktEs args)
def ktEs : List Ex → List (Nat × List Kt)
 | [] => []
 | e :: r => ((shapeOf e.op).lv,ktE e) :: ktEs r
end
def Ex.lv (e : Ex) : Nat := (shapeOf e.op).lv
def Stp (j : Nat) (r : List Tk) : Prop := (∀ i,j ≤ i → i ≤ 4 → opAt i r = none) ∧ isT [91] r = false
theorem Stp.up {i j : Nat} {r : List Tk} (h : Stp i r) (hij : i ≤ j) : Stp j r := ⟨fun k h1 h2 => h.1 k (by omega) h2,h.2⟩
theorem Stp.of {j : Nat} {t : Tk} {r : List Tk} (h : ∀ i ∈ List.range 5,j ≤ i → opK i (kt t) = none) (h2 : isK [91] (kt t) = false) : Stp j (t :: r) :=
 ⟨fun i h1 h3 => h i (List.mem_range.2 (by omega)) h1,h2⟩
theorem pX_up {l : List Tk} {a : Ex} {r : List Tk} : ∀ (d lv j : Nat),j = lv + 1 + d → j ≤ 5 → pX j l = .ok a r → Stp (lv + 1) r → pX lv l = pL lv a r
 | 0,lv,j,e,hj,h,_ => by
  rw [pX_low (by omega),show lv + 1 = j by omega,h];rfl
 | d + 1,lv,j,e,hj,h,hs => by
  have := pX_up d (lv + 1) j (by omega) hj h (hs.up (by omega));rw [pX_low (by omega),this,pL_none (hs.1 _ (Nat.le_refl _) (by omega))];rfl
def Rd (e : Ex) : Prop := ∀ le r,le.map kt = ktE e → (∀ lv,lv ≤ 4 → lv + 1 ≤ e.lv → Stp (lv + 1) r → pX lv (le ++ r) = if lv = 2 ∧ e.lv = 3 then .ok e r else pL lv e r) ∧ (6 ≤ e.lv → isT [91] r = false → pX 5 (le ++ r) = .ok e r)
theorem Rd.full {e : Ex} (h : Rd e) {le r : List Tk} (hk : le.map kt = ktE e) {lv : Nat} (h5 : lv ≤ 5) (hl : lv + 1 ≤ e.lv) (hs : Stp lv r) : pX lv (le ++ r) = .ok e r := by
 by_cases e5 : lv = 5
 ·subst e5;exact (h le r hk).2 hl hs.2
 ·rw [(h le r hk).1 lv (by omega) hl (hs.up (by omega)),pL_none (hs.1 lv (Nat.le_refl _) (by omega))]
  split <;> rfl
theorem Rd.of {e : Ex} (h6 : 6 ≤ e.lv) (h : ∀ le r,le.map kt = ktE e → isT [91] r = false → pX 5 (le ++ r) = .ok e r) : Rd e := fun le r hk => by
 refine ⟨fun lv hl h1 hs => ?_,fun _ => h le r hk⟩;rw [if_neg (by omega)];exact pX_up (4 - lv) lv 5 (by omega) (by omega) (h le r hk hs.2) hs
theorem Rd.par {e : Ex} (h : Rd e) (h1 : 1 ≤ e.lv) {le r : List Tk} (hk : le.map kt = (4,[40]) :: (ktE e ++ [(4,[41])])) : pX 5 (le ++ r) = .ok e r := by
 obtain ⟨t,l1,rfl,ht,hk⟩ := List.map_eq_cons_iff.1 hk;obtain ⟨l2,l3,rfl,h2,h3⟩ := List.map_eq_append_iff.1 hk;obtain ⟨t2,l4,rfl,ht2,h4⟩ := List.map_eq_cons_iff.1 h3;obtain rfl := List.map_eq_nil_iff.1 h4;simp only [List.cons_append,List.append_assoc,List.nil_append];have hf := h.full h2 (r := t2 :: r) (lv := 0) (by omega) h1 (.of (by rw [ht2];decide) (by rw [ht2];decide));rw [pX_un,isT_cons,isT_cons,ht,if_neg (by decide),if_neg (by decide),primE];have hk0 : t.k = 4 := congrArg Prod.fst ht;simp only [isT_cons,ht];rw [if_neg (by rw [hk0];decide),if_neg (by decide),if_neg (by decide),if_neg (by decide),if_neg (by decide),if_pos (by decide),hf];show needT [41] (t2 :: r) _ = _;rw [needT,isT_cons,ht2,if_pos (by decide)]
 rfl
theorem Rd.opnd {e : Ex} (h : Rd e) (h1 : 1 ≤ e.lv) {n : Nat} {le r : List Tk} (hk : le.map kt = parK n e.lv (ktE e)) (hn : n ≤ 6) (h0 : 0 < n) (hs : Stp (n - 1) r) : pX (n - 1) (le ++ r) = .ok e r := by
 unfold parK at hk
 split at hk
 ·have hp := h.par h1 hk (r := r)
  by_cases e5 : n = 6
  ·subst e5;exact hp
  ·rw [pX_up (5 - n) (n - 1) 5 (by omega) (by omega) hp (hs.up (by omega)),pL_none (hs.1 _ (Nat.le_refl _) (by omega))]
 ·exact h.full hk (by omega) (by omega) hs
theorem Rd.left {e : Ex} (h : Rd e) (h1 : 1 ≤ e.lv) {lv : Nat} {le r : List Tk} (hk : le.map kt = parK (lv + 1) e.lv (ktE e)) (hn : lv ≤ 4) (h2 : lv ≠ 2) (hs : Stp (lv + 1) r) : pX lv (le ++ r) = pL lv e r := by
 unfold parK at hk
 split at hk
 ·exact pX_up (4 - lv) lv 5 (by omega) (by omega) (h.par h1 hk (r := r)) hs
 ·rw [(h le r hk).1 lv hn (by omega) hs,if_neg (by omega)]
theorem numV_digits (u : Nat) : numV (Lib.decDigits u) = u := by
 induction u using Nat.strongRecOn with
 | _ u ih =>
  by_cases h : u < 10
  ·rw [Lib.decDigits_one h];simp only [numV,List.foldl_cons,List.foldl_nil,Plain.digit_nat u h];omega
  ·rw [Plain.digits_more u h];have := ih (u / 10) (by omega);unfold numV at this ⊢;rw [List.foldl_append,this];simp only [List.foldl_cons,List.foldl_nil,Plain.digit_nat (u % 10) (by omega)];omega
theorem numV_itoa {n : Int} (h : 0 ≤ n) : numV (Lib.itoa n) = n.toNat := by
 unfold Lib.itoa;rw [if_neg (by omega),numV_digits]
theorem ok_cases {op : UInt8} (h : okOp op = true) : op ∈ ([1,2,3,4,5,6,7,8,9,10,11,12,13,14,15,16,17,18,19,20,21,22,23] : List UInt8) := by
 simp only [okOp,Bool.and_eq_true,decide_eq_true_eq] at h;have key : ∀ i ∈ List.range 24,1 ≤ i → UInt8.ofNat i ∈ ([1,2,3,4,5,6,7,8,9,10,11,12,13,14,15,16,17,18,19,20,21,22,23] : List UInt8) := by decide
 have := key op.toNat (List.mem_range.2 (by omega)) h.1
 rwa [UInt8.ofNat_toNat] at this
theorem ok_split {op : UInt8} (h : okOp op = true) : op = 1 ∨ op ∈ ([11,12,13,14,15,16,17,18,19,20,21,22,23] : List UInt8) ∨ (op = 2 ∨ op = 3 ∨ op = 4 ∨ op = 5 ∨ op = 6 ∨ op = 7 ∨ op = 8 ∨ op = 9 ∨ op = 10) := by
 have key : ∀ o ∈ ([1,2,3,4,5,6,7,8,9,10,11,12,13,14,15,16,17,18,19,20,21,22,23] : List UInt8),o = 1 ∨ o ∈ ([11,12,13,14,15,16,17,18,19,20,21,22,23] : List UInt8) ∨ (o = 2 ∨ o = 3 ∨ o = 4 ∨ o = 5 ∨ o = 6 ∨ o = 7 ∨ o = 8 ∨ o = 9 ∨ o = 10) := by decide
 exact key op (ok_cases h)
theorem ok_lv {op : UInt8} (h : okOp op = true) : 1 ≤ (shapeOf op).lv := by
 have key : ∀ o ∈ ([1,2,3,4,5,6,7,8,9,10,11,12,13,14,15,16,17,18,19,20,21,22,23] : List UInt8),1 ≤ (shapeOf o).lv := by decide
 exact key op (ok_cases h)
theorem args0 {l : List Ex} (h : l.length = 0) : l = [] := List.eq_nil_of_length_eq_zero h
theorem args1 {l : List Ex} (h : l.length = 1) : ∃ a,l = [a] := List.length_eq_one_iff.1 h
theorem args2 {l : List Ex} (h : l.length = 2) : ∃ a b,l = [a,b] := by
 match l,h with
 | [a,b],_ => exact ⟨a,b,rfl⟩
theorem i64_zero {n : Int64} (h : n.toInt = 0) : n = 0 := Int64.toInt_inj.1 (by rw [h];rfl)
def binOp (op : UInt8) : Bool := decide (11 ≤ op.toNat) && decide (op.toNat ≤ 23)
theorem bin_facts : ∀ op ∈ ([11,12,13,14,15,16,17,18,19,20,21,22,23] : List UInt8),(shapeOf op).n = 2 ∧ (shapeOf op).nm = false ∧ 1 ≤ (shapeOf op).lv ∧ (shapeOf op).lv ≤ 5 ∧ opK ((shapeOf op).lv - 1) (symK op) = some op ∧ isK [91] (symK op) = false ∧
 (∀ i ∈ List.range 5,(shapeOf op).lv ≤ i → opK i (symK op) = none) ∧ ¬ op = 1 ∧ ¬ op = 5 ∧ ¬ op = 8 ∧ ¬ op = 6 ∧ ¬ op = 7 ∧ ¬ op = 9 ∧ ¬ op = 10 := by decide
theorem ktE_bin {op : UInt8} (h : op ∈ ([11,12,13,14,15,16,17,18,19,20,21,22,23] : List UInt8)) (nm : Str) (n : Int64) (a b : Ex) :
 ktE (.mk op nm n [a,b]) = parK (lftT (shapeOf op).lv) a.lv (ktE a) ++ symK op :: parK ((shapeOf op).lv + 1) b.lv (ktE b) := by
 obtain ⟨h1,_,_,_,_,_,_,g1,g2,g3,g4,g5,g6,g7⟩ := bin_facts op h;rw [ktE,ktx,if_neg g1,if_neg g2,if_neg g3,if_neg g4,if_neg g5,if_neg g6,if_neg g7,if_neg (by omega)]
 rfl
theorem rd_bin {op : UInt8} (h : op ∈ ([11,12,13,14,15,16,17,18,19,20,21,22,23] : List UInt8)) {a b : Ex} (ha : Rd a) (hb : Rd b) (ha1 : 1 ≤ a.lv) (hb1 : 1 ≤ b.lv) : Rd (opE op [a,b]) := by
 intro le r hk;obtain ⟨_,_,h3,h4,h5,h6,h7,_⟩ := bin_facts op h;have hlv : (opE op [a,b]).lv = (shapeOf op).lv := rfl;rw [hlv];rw [show opE op [a,b] = .mk op [] 0 [a,b] from rfl,ktE_bin h] at hk;obtain ⟨la,l1,rfl,hla,hk⟩ := List.map_eq_append_iff.1 hk;obtain ⟨t,lb,rfl,ht,hlb⟩ := List.map_eq_cons_iff.1 hk;generalize hL : (shapeOf op).lv = L at *;refine ⟨?_,fun h8 => absurd h8 (by omega)⟩;have hst : ∀ q,Stp L (t :: q) := fun q => .of (by rw [ht];exact h7) (by rw [ht];exact h6)
 -- at its own level
 have own : Stp L r → pX (L - 1) (la ++ t :: lb ++ r) = if L - 1 = 2 then .ok (opE op [a,b]) r else pL (L - 1) (opE op [a,b]) r := by
  intro hs;have hopt : ∀ q,opAt (L - 1) (t :: q) = some op := fun q => by rw [opAt_cons,ht];exact h5
  have hB : pX L (lb ++ r) = .ok b r := by
   have := hb.opnd hb1 (n := L + 1) hlb (by omega) (by omega) (r := r) (by simpa using hs);simpa using this
  have hA : pX (L - 1) (la ++ (t :: lb ++ r)) = pL (L - 1) a (t :: lb ++ r) := by
   by_cases h2 : L = 3
   ·subst h2;have := ha.opnd ha1 (n := 4) (r := t :: lb ++ r) hla (by omega) (by omega) (hst _);rw [pX_low (by omega)];show (pX 3 _).bind _ = _;rw [show (4 : Nat) - 1 = 3 from rfl] at this;rw [this];rfl
   ·have e : lftT L = L - 1 + 1 := by unfold lftT;rw [if_neg h2];omega
    rw [e] at hla;exact ha.left ha1 hla (by omega) (by omega) (by rw [show L - 1 + 1 = L by omega];exact hst _)
  rw [List.append_assoc,hA,List.cons_append,pL_some (by omega) (hopt _)];show (pX (L - 1 + 1) (lb ++ r)).bind _ = _;rw [show L - 1 + 1 = L by omega,hB]
  rfl
 intro lv hl4 hl hs
 by_cases e : lv = L - 1
 ·subst e;rw [show L - 1 + 1 = L by omega] at hs;rw [own hs];exact ifI (by omega)
 ·rw [if_neg (by omega)];refine pX_up (L - 2 - lv) lv (L - 1) (by omega) (by omega) ?_ hs;rw [own (hs.up (by omega)),pL_none (hs.1 _ (by omega) (by omega))]
  split <;> rfl
theorem ktE_one {op : UInt8} {nm : Str} {n : Int64} {args : List Ex} {x : Kt} (h : ktE (.mk op nm n args) = [x]) {le : List Tk} (hk : le.map kt = ktE (.mk op nm n args)) : ∃ t,le = [t] ∧ kt t = x := by
 rw [h] at hk;obtain ⟨t,l,rfl,ht,hl⟩ := List.map_eq_cons_iff.1 hk;obtain rfl := List.map_eq_nil_iff.1 hl;exact ⟨t,rfl,ht⟩
theorem rd_un {op : UInt8} {a : Ex} (ha : Rd a) (h1 : 1 ≤ a.lv) (hop : op = 9 ∨ op = 10) : Rd (opE op [a]) := by
 refine .of (by rcases hop with rfl | rfl <;> exact (by decide : 6 ≤ 6)) fun le r hk h91 => ?_
 have key : ∃ t l,le = t :: l ∧ kt t = (if op = 9 then (4,[45]) else (2,[110,111,116])) ∧ l.map kt = parK 6 a.lv (ktE a) := by
  rcases hop with rfl | rfl
  ·obtain ⟨t,l,rfl,ht,hl⟩ := List.map_eq_cons_iff.1 (show le.map kt = (4,[45]) :: parK 6 a.lv (ktE a) from hk);exact ⟨t,l,rfl,ht,hl⟩
  ·obtain ⟨t,l,rfl,ht,hl⟩ := List.map_eq_cons_iff.1 (show le.map kt = (2,[110,111,116]) :: parK 6 a.lv (ktE a) from hk);exact ⟨t,l,rfl,ht,hl⟩
 obtain ⟨t,l,rfl,ht,hl⟩ := key;have hA : pX 5 (l ++ r) = .ok a r := ha.opnd h1 (n := 6) hl (by omega) (by omega) ⟨fun i h1 h2 => by omega,h91⟩;rw [List.cons_append,pX_un];rcases hop with rfl | rfl
 ·rw [isT_cons,ht,if_pos (by decide)];show (pX 5 (l ++ r)).bind _ = _;rw [hA];rfl
 ·rw [isT_cons,isT_cons,ht,if_neg (by decide),if_pos (by decide)];show (pX 5 (l ++ r)).bind _ = _;rw [hA];rfl
theorem rd_key {a : Ex} (ha : Rd a) (h1 : 1 ≤ a.lv) {l r : List Tk} (hl : l.map kt = (4,[91]) :: (ktE a ++ [(4,[93])])) : isT [91] (l ++ r) = true ∧ ∀ (g : Ex → List Tk → Rs Ex),((pX 0 (l ++ r).tail).bind fun x r4 => needT [93] r4 fun r5 => g x r5) = g a r := by
 obtain ⟨t,l1,rfl,ht,hk⟩ := List.map_eq_cons_iff.1 hl;obtain ⟨l2,l3,rfl,h2,h3⟩ := List.map_eq_append_iff.1 hk;obtain ⟨t2,l4,rfl,ht2,h4⟩ := List.map_eq_cons_iff.1 h3;obtain rfl := List.map_eq_nil_iff.1 h4;refine ⟨by rw [List.cons_append,isT_cons,ht];decide,fun g => ?_⟩;have hf := ha.full h2 (r := t2 :: r) (lv := 0) (by omega) h1 (.of (by rw [ht2];decide) (by rw [ht2];decide));simp only [List.cons_append,List.append_assoc,List.nil_append,List.tail_cons];rw [hf];show needT [93] (t2 :: r) _ = _;rw [needT,isT_cons,ht2,if_pos (by decide)]
 rfl
theorem rd_all (e : Ex) : Ex.all frmE e = true → Rd e ∧ 1 ≤ e.lv := by
 induction e using Ex.ind with
 | _ op nm n args ih =>
  intro h;rw [all_mk,Bool.and_eq_true] at h;obtain ⟨hf,hr⟩ := h;have ha : ∀ a ∈ args,Rd a ∧ 1 ≤ a.lv := fun a m => ih a m (alls_mem m hr);simp only [frmE,Bool.and_eq_true,Bool.or_eq_true,decide_eq_true_eq] at hf;obtain ⟨⟨⟨hop,hl⟩,hnm⟩,hn⟩ := hf;refine ⟨?_,ok_lv hop⟩;have hm := ok_cases hop
  by_cases h1 : op = 1
  ·subst h1;obtain rfl := args0 hl;obtain rfl : nm = [] := hnm.resolve_left (by decide);rw [if_pos rfl,decide_eq_true_eq] at hn;refine .of (show 6 ≤ (shapeOf 1).lv by decide) fun le r hk _ => ?_;obtain ⟨t,rfl,ht⟩ := ktE_one (x := (3,Lib.itoa n.toInt)) rfl hk;have hk3 : t.k = 3 := congrArg Prod.fst ht;have ht2 : t.t = Lib.itoa n.toInt := congrArg Prod.snd ht;have hlt := n.toInt_lt;rw [List.cons_append,List.nil_append,pX_un,isT_cons,isT_cons,ht,if_neg (by simp [isK]),if_neg (by simp [isK]),primE];rw [if_pos hk3,ht2,numV_itoa hn,if_pos (by omega)]
   congr 2
   exact Int64.toInt_inj.1 (by rw [Int64.toInt_ofNat_of_lt (by omega)];omega)
  rw [if_neg h1,decide_eq_true_eq] at hn;obtain rfl := i64_zero hn
  by_cases hb : op ∈ ([11,12,13,14,15,16,17,18,19,20,21,22,23] : List UInt8)
  ·obtain ⟨b1,b2,_⟩ := bin_facts op hb;obtain ⟨a,b,rfl⟩ := args2 (l := args) (by omega)
   obtain rfl : nm = [] := by rcases hnm with e | e
                              ·rw [b2] at e;cases e
                              ·exact e
   have h3 := ha a (by simp);have h4 := ha b (by simp);exact rd_bin hb h3.1 h4.1 h3.2 h4.2
  have hs : op = 2 ∨ op = 3 ∨ op = 4 ∨ op = 5 ∨ op = 6 ∨ op = 7 ∨ op = 8 ∨ op = 9 ∨ op = 10 := ((ok_split hop).resolve_left h1).resolve_left hb
  have cst : ∀ (w : Str),op = 2 ∨ op = 3 ∨ op = 4 → w = (shapeOf op).tx → Rd (.mk op nm 0 args) := by
   intro w ho hw
   have hnil : args = [] := by
    rcases ho with rfl | rfl | rfl <;> exact args0 hl
   have hnm0 : nm = [] := by
    rcases ho with rfl | rfl | rfl <;> exact hnm.resolve_left (by decide)
   subst hnil hnm0;refine .of (by rcases ho with rfl | rfl | rfl <;> exact (by decide : 6 ≤ 7)) fun le r hk _ => ?_;rcases ho with rfl | rfl | rfl
   all_goals
    obtain ⟨t,rfl,ht⟩ := ktE_one rfl hk;have hk3 : t.k = 2 := congrArg Prod.fst ht;rw [List.cons_append,List.nil_append,pX_un,isT_cons,isT_cons,ht,if_neg (by decide),if_neg (by decide),primE];simp only [isT_cons,ht];rw [if_neg (by rw [hk3];decide)]
   ·rw [if_pos (by decide)];rfl
   ·rw [if_neg (by decide),if_pos (by decide)];rfl
   ·rw [if_neg (by decide),if_neg (by decide),if_pos (by decide)];rfl
  rcases hs with rfl | rfl | rfl | rfl | rfl | rfl | rfl | rfl | rfl
  ·exact cst _ (.inl rfl) rfl
  ·exact cst _ (.inr (.inl rfl)) rfl
  ·exact cst _ (.inr (.inr rfl)) rfl
  ·obtain rfl := args0 hl;refine .of (show 6 ≤ (shapeOf 5).lv by decide) fun le r hk h91 => ?_;obtain ⟨t,rfl,ht⟩ := ktE_one (x := (1,nm)) rfl hk;have hk1 : t.k = 1 := congrArg Prod.fst ht;have ht2 : t.t = nm := congrArg Prod.snd ht;have hno : ∀ w,isK w (1,nm) = false := fun w => by simp [isK]
   rw [List.cons_append,List.nil_append,pX_un,isT_cons,isT_cons,ht,hno,hno,if_neg (by decide),if_neg (by decide),primE];simp only [isT_cons,ht,hno];rw [if_neg (by rw [hk1];decide)];simp only [Bool.false_eq_true,if_false];rw [if_pos hk1,h91,if_neg (by decide),ht2]
  ·obtain ⟨a,rfl⟩ := args1 hl;obtain ⟨ra,r1⟩ := ha a (by simp);refine .of (show 6 ≤ (shapeOf 6).lv by decide) fun le r hk h91 => ?_;obtain ⟨t,l,rfl,ht,hl⟩ := List.map_eq_cons_iff.1 (show le.map kt = (1,nm) :: (4,[91]) :: (ktE a ++ [(4,[93])]) from hk);have hk1 : t.k = 1 := congrArg Prod.fst ht;have ht2 : t.t = nm := congrArg Prod.snd ht;have hno : ∀ w,isK w (1,nm) = false := fun w => by simp [isK]
   obtain ⟨k1,k2⟩ := rd_key ra r1 hl (r := r);rw [List.cons_append,pX_un,isT_cons,isT_cons,ht,hno,hno,if_neg (by decide),if_neg (by decide),primE];simp only [isT_cons,ht,hno];rw [if_neg (by rw [hk1];decide)];simp only [Bool.false_eq_true,if_false];rw [if_pos hk1,k1,if_pos rfl,k2,ht2]
  ·obtain ⟨a,rfl⟩ := args1 hl;obtain ⟨ra,r1⟩ := ha a (by simp);refine .of (show 6 ≤ (shapeOf 7).lv by decide) fun le r hk h91 => ?_;obtain ⟨t,l,rfl,ht,hl⟩ := List.map_eq_cons_iff.1 (show le.map kt = (2,[104,97,115]) :: (1,nm) :: (4,[91]) :: (ktE a ++ [(4,[93])]) from hk);obtain ⟨t2,l2,rfl,ht2,hl⟩ := List.map_eq_cons_iff.1 hl;have hk1 : t.k = 2 := congrArg Prod.fst ht;have hk2 : t2.k = 1 := congrArg Prod.fst ht2;have ht3 : t2.t = nm := congrArg Prod.snd ht2;obtain ⟨k1,k2⟩ := rd_key ra r1 hl (r := r);rw [List.cons_append,pX_un,isT_cons,isT_cons,ht,if_neg (by decide),if_neg (by decide),primE];simp only [isT_cons,ht];rw [if_neg (by rw [hk1];decide),if_neg (by decide),if_neg (by decide),if_neg (by decide),if_neg (by decide),if_neg (by decide),if_pos (by decide),List.cons_append,nameT];rw [if_pos hk2,needT,k1,if_pos rfl,k2,ht3]
  ·obtain rfl := args0 hl;refine .of (show 6 ≤ (shapeOf 8).lv by decide) fun le r hk h91 => ?_;obtain ⟨t,l,rfl,ht,hl⟩ := List.map_eq_cons_iff.1 (show le.map kt = (2,[115,105,122,101]) :: (1,nm) :: [] from hk);obtain ⟨t2,l2,rfl,ht2,hl⟩ := List.map_eq_cons_iff.1 hl;obtain rfl := List.map_eq_nil_iff.1 hl;have hk1 : t.k = 2 := congrArg Prod.fst ht;have hk2 : t2.k = 1 := congrArg Prod.fst ht2;have ht3 : t2.t = nm := congrArg Prod.snd ht2;rw [List.cons_append,pX_un,isT_cons,isT_cons,ht,if_neg (by decide),if_neg (by decide),primE];simp only [isT_cons,ht];rw [if_neg (by rw [hk1];decide),if_neg (by decide),if_neg (by decide),if_neg (by decide),if_pos (by decide),List.cons_append,nameT];rw [if_pos hk2,ht3];rfl
  ·obtain ⟨a,rfl⟩ := args1 hl;obtain ⟨ra,r1⟩ := ha a (by simp);obtain rfl : nm = [] := hnm.resolve_left (by decide);exact rd_un ra r1 (.inl rfl)
  ·obtain ⟨a,rfl⟩ := args1 hl;obtain ⟨ra,r1⟩ := ha a (by simp);obtain rfl : nm = [] := hnm.resolve_left (by decide);exact rd_un ra r1 (.inr rfl)
structure Tok (x : Kt) (r : Str) : Prop where
 ne : x.2 ≠ []
 read : readK (x.2 ++ r) = (x.1,x.2.length)
 skip : skipS false (x.2 ++ r) = x.2 ++ r
 k5 : x.1 ≠ 5
 sh : x.2.length ≤ 1000000
inductive Lx : Str → List Kt → Prop where
 | nil : Lx [] []
 | blk {c : UInt8} {s : Str} {k : List Kt} (h : blkB c = true) (l : Lx s k) : Lx (c :: s) k
 | tok {x : Kt} {s : Str} {k : List Kt} (h : Tok x s) (l : Lx s k) : Lx (x.2 ++ s) (x :: k)
def sepB (r : Str) : Prop := ∀ c,r.head? = some c → insB c = false ∧ c ≠ 46 ∧ c ≠ 61 ∧ c ≠ 62 ∧ c ≠ 47
def hdB (r : Str) : Prop := ∀ c,r.head? = some c → c ≠ 46 ∧ c ≠ 61 ∧ c ≠ 62 ∧ c ≠ 47
theorem sepB.hd {r : Str} (h : sepB r) : hdB r := fun c e => (h c e).2
theorem sepB_cons {c : UInt8} {r : Str} (h : insB c = false ∧ c ≠ 46 ∧ c ≠ 61 ∧ c ≠ 62 ∧ c ≠ 47) : sepB (c :: r) := fun d e => by cases e;exact h
theorem hdB_cons {c : UInt8} {r : Str} (h : c ≠ 46 ∧ c ≠ 61 ∧ c ≠ 62 ∧ c ≠ 47) : hdB (c :: r) := fun d e => by cases e;exact h
theorem pre_app {q : UInt8 → Bool} : ∀ {w r : Str},w.all q = true → (∀ c,r.head? = some c → q c = false) → pre q (w ++ r) = w.length
 | [],[],_,_ => rfl
 | [],c :: r,_,h => by unfold pre;rw [List.nil_append,List.takeWhile_cons,h c rfl];rfl
 | a :: w,r,hw,h => by
  rw [List.all_cons,Bool.and_eq_true] at hw;have := pre_app hw.2 h;unfold pre at this ⊢;rw [List.cons_append,List.takeWhile_cons,hw.1];simp [this]
theorem pre_all {q : UInt8 → Bool} : ∀ {w : Str},pre q w = w.length → w.all q = true
 | [],_ => rfl
 | a :: w,h => by
  unfold pre at h;rw [List.takeWhile_cons] at h;cases ha : q a with
  | false => rw [ha] at h;simp at h
  | true =>
   rw [ha] at h;have := pre_all (q := q) (w := w) (by unfold pre;simpa using h);rw [List.all_cons,ha,this];rfl
theorem byte_key {Q : UInt8 → Prop} (h : ∀ i ∈ List.range 256,Q (UInt8.ofNat i)) (c : UInt8) : Q c := by
 have := h c.toNat (List.mem_range.2 c.toNat_lt)
 rwa [UInt8.ofNat_toNat] at this
theorem let_blk (c : UInt8) (h : letB c = true) : blkB c = false ∧ c ≠ 47 ∧ c ≠ 46 ∧ c ≠ 61 ∧ c ≠ 62 ∧ insB c = true ∧ digB c = false := by
 revert h
 exact byte_key (Q := fun c => letB c = true → blkB c = false ∧ c ≠ 47 ∧ c ≠ 46 ∧ c ≠ 61 ∧ c ≠ 62 ∧ insB c = true ∧ digB c = false) (by decide +kernel) c
theorem dig_blk (c : UInt8) (h : digB c = true) : blkB c = false ∧ c ≠ 47 ∧ c ≠ 46 ∧ c ≠ 61 ∧ c ≠ 62 ∧ letB c = false := by
 revert h
 exact byte_key (Q := fun c => digB c = true → blkB c = false ∧ c ≠ 47 ∧ c ≠ 46 ∧ c ≠ 61 ∧ c ≠ 62 ∧ letB c = false) (by decide +kernel) c
theorem ins_dig (c : UInt8) (h : insB c = false) : digB c = false := by
 revert h
 exact byte_key (Q := fun c => insB c = false → digB c = false) (by decide +kernel) c
theorem words_len : ∀ w ∈ words,w.length ≤ 12 := by decide +kernel
theorem tok_word {k : UInt8} {w r : Str} (h0 : w ≠ []) (hl : letB (w.headD 0) = true) (hw : w.all insB = true) (hk : (if words.contains w then (2 : UInt8) else if w.length ≤ 12 then 1 else 5) = k) (h5 : k ≠ 5) (hr : sepB r) : Tok (k,w) r := by
 match w,h0 with
 | c :: t,h0 =>
  have hlb := let_blk c hl;have hp : pre insB ((c :: t) ++ r) = (c :: t).length := pre_app hw fun d hd => (hr d hd).1;refine ⟨h0,?_,?_,h5,?_⟩
  ·show readK ((c :: t) ++ r) = (k,(c :: t).length);unfold readK;simp only;rw [show ((c :: t) ++ r).headD 0 = c from rfl,show letB c = true from hl,if_pos rfl,hp,List.take_left]
   split at hk
   ·rename_i e;rw [if_pos e,← hk]
   ·rename_i e;rw [if_neg e]
    split at hk
    ·rename_i e2;rw [if_pos e2,← hk]
    ·exact absurd hk.symm h5
  ·exact skipS_stop hlb.1 (fun e => hlb.2.1 e.1)
  ·show (c :: t).length ≤ 1000000
   split at hk
   ·rename_i e;have := words_len _ (List.contains_iff_mem.1 e);omega
   ·split at hk
    ·omega
    ·exact absurd hk.symm h5
theorem kw_facts : ∀ w ∈ words,w ≠ [] ∧ letB (w.headD 0) = true ∧ w.all insB = true := by decide +kernel
theorem tok_kw {w r : Str} (hw : w ∈ words) (hr : sepB r) : Tok (2,w) r := by
 obtain ⟨h1,h2,h3⟩ := kw_facts w hw;exact tok_word h1 h2 h3 (by rw [if_pos (List.contains_iff_mem.2 hw)]) (by decide) hr
theorem nameB_facts {w : Str} (h : nameB w = true) : w ≠ [] ∧ letB (w.headD 0) = true ∧ w.all insB = true ∧ words.contains w = false ∧ w.length ≤ 12 := by
 have hlen := name_len h;simp only [nameB,Bool.and_eq_true,decide_eq_true_eq,beq_iff_eq] at h;obtain ⟨⟨h0,h1⟩,h2⟩ := h
 match w,h0 with
 | c :: t,h0 =>
  have hl := readK_one h1
  have h3 : words.contains ((c :: t).take (pre insB (c :: t))) = false ∧ pre insB (c :: t) = (c :: t).length := by
   unfold readK at h1 h2;simp only [List.headD_cons,hl,if_true] at h1 h2
   split at h1
   ·simp at h1
   ·rename_i e;rw [if_neg e] at h2
    split at h1
    ·rename_i e2;rw [if_pos e2] at h2;exact ⟨by simpa using e,h2⟩
    ·simp at h1
  obtain ⟨h4,h5⟩ := h3;rw [h5,List.take_length] at h4;exact ⟨h0,hl,pre_all h5,h4,hlen⟩
theorem tok_name {w r : Str} (hw : nameB w = true) (hr : sepB r) : Tok (1,w) r := by
 obtain ⟨h1,h2,h3,h4,h5⟩ := nameB_facts hw;exact tok_word h1 h2 h3 (by rw [h4,if_neg (by decide),if_pos h5]) (by decide) hr
theorem name_hd {w r : Str} (hw : nameB w = true) : hdB (w ++ r) := by
 obtain ⟨h1,h2,_⟩ := nameB_facts hw
 match w,h1 with
 | c :: t,_ => have := let_blk c h2;exact hdB_cons ⟨this.2.2.1,this.2.2.2.1,this.2.2.2.2.1,this.2.1⟩
theorem kw_hd {w r : Str} (hw : w ∈ words) : hdB (w ++ r) := by
 obtain ⟨h1,h2,_⟩ := kw_facts w hw
 match w,h1 with
 | c :: t,_ => have := let_blk c h2;exact hdB_cons ⟨this.2.2.1,this.2.2.2.1,this.2.2.2.2.1,this.2.1⟩
theorem digits_hd : ∀ (u : Nat),∃ c t,Lib.decDigits u = c :: t ∧ (t = [] ∨ c ≠ 48) ∧ (u ≠ 0 → c ≠ 48) := by
 intro u;induction u using Nat.strongRecOn with
 | _ u ih =>
  by_cases h : u < 10
  ·rw [Lib.decDigits_one h];refine ⟨_,[],rfl,.inl rfl,fun hu e => ?_⟩;have := congrArg UInt8.toNat e;rw [Plain.digit_nat u h] at this;have h48 : (48 : UInt8).toNat = 48 := rfl;omega
  ·rw [Plain.digits_more u h];obtain ⟨c,t,e,_,h2⟩ := ih (u / 10) (by omega);rw [e];exact ⟨c,_,rfl,.inr (h2 (by omega)),fun _ => h2 (by omega)⟩
theorem dec_len {u : Nat} (h : u ≤ 9223372036854775808) : (Lib.decDigits u).length ≤ 21 := by
 have h1 := Lib.itoa_length_le (-(u : Int)) (by omega) (by omega)
 by_cases h0 : u = 0
 ·subst h0;decide +kernel
 ·rw [Lib.itoa,if_pos (by omega),show (-(u : Int)).natAbs = u by omega,List.length_cons] at h1;omega
theorem dec64 {n : Int64} : n.toInt.toNat ≤ 9223372036854775808 := by have := n.toInt_lt;omega
theorem tok_num {u : Nat} {r : Str} (hu : u ≤ 9223372036854775808) (hr : sepB r) : Tok (3,Lib.decDigits u) r := by
 have hdl := dec_len hu;obtain ⟨c,t,e,h2,_⟩ := digits_hd u
 have hall : (Lib.decDigits u).all digB = true := List.all_eq_true.2 fun d hd => by
  have := Plain.digits_are u d hd;simp only [digB,Bool.and_eq_true,decide_eq_true_eq];exact this
 have hp : pre digB (Lib.decDigits u ++ r) = (Lib.decDigits u).length := pre_app hall fun d hd => ins_dig d (hr d hd).1;rw [e] at hall hp hdl ⊢;rw [List.all_cons,Bool.and_eq_true] at hall;have hb := dig_blk c hall.1;refine ⟨by simp,?_,skipS_stop hb.1 (fun e => hb.2.1 e.1),(show (3 : UInt8) ≠ 5 by decide),(by show (c :: t).length ≤ 1000000;omega)⟩;show readK ((c :: t) ++ r) = (3,(c :: t).length);unfold readK;simp only;rw [show ((c :: t) ++ r).headD 0 = c from rfl,hb.2.2.2.2.2,if_neg (by decide),hall.1,if_pos rfl,hp];refine if_pos ?_;rcases h2 with rfl | h2
 ·exact .inl Z
 ·exact .inr h2
theorem num_hd {u : Nat} {r : Str} : hdB (Lib.decDigits u ++ r) := by
 obtain ⟨c,t,e,_⟩ := digits_hd u;have := Plain.digits_are u c (by rw [e];simp);have hd : digB c = true := by simp only [digB,Bool.and_eq_true,decide_eq_true_eq];exact this
 have hb := dig_blk c hd;rw [e];exact hdB_cons ⟨hb.2.2.1,hb.2.2.2.1,hb.2.2.2.2.1,hb.2.1⟩
def sym1 : Str := [123,125,40,41,91,93,44,59,58,46,61,60,62,43,45,42,47,37]
theorem tok_sym {c : UInt8} {r : Str} (hc : c ∈ sym1) (hr : hdB r) : Tok (4,[c]) r := by
 have hx : ∀ d,r.head? = some d → d ≠ 46 ∧ d ≠ 61 ∧ d ≠ 62 ∧ d ≠ 47 := hr;refine ⟨by simp,?_,?_,(show (4 : UInt8) ≠ 5 by decide),(by show (1 : Nat) ≤ _;omega)⟩
 ·show readK (c :: r) = (4,1);have hl : letB c = false ∧ digB c = false := by revert c;decide
  have hf : symbols.find? (fun x => x.isPrefixOf (c :: r)) = some [c] := by
   cases r with
   | nil => revert c;decide
   | cons d t =>
    obtain ⟨e1,e2,e3,e4⟩ := hx d rfl;have b1 : ((46 : UInt8) == d) = false := beq_false_of_ne (Ne.symm e1);have b2 : ((61 : UInt8) == d) = false := beq_false_of_ne (Ne.symm e2);have b3 : ((62 : UInt8) == d) = false := beq_false_of_ne (Ne.symm e3);simp only [sym1,List.mem_cons,List.not_mem_nil,or_false] at hc
    rcases hc with rfl | rfl | rfl | rfl | rfl | rfl | rfl | rfl | rfl | rfl | rfl | rfl | rfl | rfl | rfl | rfl | rfl | rfl <;>
     simp [symbols,List.find?,List.isPrefixOf,b1,b2,b3]
  unfold readK;simp only [List.headD_cons,hl.1,hl.2,hf,Bool.false_eq_true,if_false,List.length_singleton]
 ·refine skipS_stop (by revert c;decide) ?_;rintro ⟨_,h⟩;exact (hx 47 h).2.2.2 rfl
def sym2 : List Str := [[61,61],[33,61],[60,61],[62,61],[45,62]]
theorem tok_two {w : Str} {r : Str} (hw : w ∈ sym2) : Tok (4,w) r := by
 simp only [sym2,List.mem_cons,List.not_mem_nil,or_false] at hw;rcases hw with rfl | rfl | rfl | rfl | rfl <;> refine ⟨by simp,?_,?_,(show (4 : UInt8) ≠ 5 by decide),(by show (2 : Nat) ≤ _;omega)⟩ <;> simp [readK,letB,digB,symbols,List.find?,List.isPrefixOf,skipS,blkB]
theorem sp_sep {r : Str} : sepB (32 :: r) := sepB_cons (by decide)
theorem cl_sep {r : Str} : sepB (41 :: r) := sepB_cons (by decide)
theorem br_sep {r : Str} : sepB (91 :: r) := sepB_cons (by decide)
theorem bk_sep {r : Str} : sepB (93 :: r) := sepB_cons (by decide)
theorem Lx.sp {r : Str} {k : List Kt} (h : Lx r k) : Lx (32 :: r) k := .blk (by decide) h
theorem Lx.sy {c : UInt8} {r : Str} {k : List Kt} (hc : c ∈ sym1) (hr : hdB r) (h : Lx r k) : Lx (c :: r) ((4,[c]) :: k) := .tok (x := (4,[c])) (tok_sym hc hr) h
theorem Lx.kw {w r : Str} {k : List Kt} (hw : w ∈ words) (hr : sepB r) (h : Lx r k) : Lx (w ++ r) ((2,w) :: k) := .tok (x := (2,w)) (tok_kw hw hr) h
theorem Lx.nm {w r : Str} {k : List Kt} (hw : nameB w = true) (hr : sepB r) (h : Lx r k) : Lx (w ++ r) ((1,w) :: k) := .tok (x := (1,w)) (tok_name hw hr) h
theorem Lx.nu {u : Nat} {r : Str} {k : List Kt} (hu : u ≤ 9223372036854775808) (hr : sepB r) (h : Lx r k) : Lx (Lib.decDigits u ++ r) ((3,Lib.decDigits u) :: k) := .tok (x := (3,Lib.decDigits u)) (tok_num hu hr) h
def LxE (e : Ex) : Prop := ∀ r ks,sepB r → Lx r ks → Lx (e.text ++ r) (ktE e ++ ks) ∧ hdB (e.text ++ r)
theorem LxE.opnd {e : Ex} (h : LxE e) (n : Nat) {r : Str} {ks : List Kt} (hr : sepB r) (hk : Lx r ks) : Lx (opT n (e.lv,e.text) ++ r) (parK n e.lv (ktE e) ++ ks) ∧ hdB (opT n (e.lv,e.text) ++ r) := by
 unfold opT parK;simp only
 split
 ·simp only [List.cons_append,List.nil_append,List.append_assoc];obtain ⟨h1,h2⟩ := h (41 :: r) ((4,[41]) :: ks) cl_sep (.sy (by decide) hr.hd hk);exact ⟨.sy (by decide) h2 h1,hdB_cons (by decide)⟩
 ·exact h r ks hr hk
theorem bin_tx : ∀ op ∈ ([11,12,13,14,15,16,17,18,19,20,21,22,23] : List UInt8),(shapeOf op).tx = 32 :: ((symK op).2 ++ [32]) ∧ (((symK op).1 = 2 ∧ (symK op).2 ∈ words) ∨ ((symK op).1 = 4 ∧ ((symK op).2 ∈ sym2 ∨ ∃ c ∈ sym1,(symK op).2 = [c]))) := by decide +kernel
theorem Lx.bin {op : UInt8} (h : op ∈ ([11,12,13,14,15,16,17,18,19,20,21,22,23] : List UInt8)) {r : Str} {k : List Kt} (hk : Lx r k) : Lx ((shapeOf op).tx ++ r) (symK op :: k) := by
 obtain ⟨h1,h2⟩ := bin_tx op h;rw [h1];simp only [List.cons_append,List.append_assoc,List.nil_append];refine .sp ?_;have hs := hk.sp;refine .tok (x := symK op) ?_ hs;generalize symK op = x at h2;obtain ⟨k,w⟩ := x;rcases h2 with ⟨e,hw⟩ | ⟨e,hw | ⟨c,hc,hw⟩⟩
 ·obtain rfl : k = 2 := e;exact tok_kw hw sp_sep
 ·obtain rfl : k = 4 := e;exact tok_two hw
 ·obtain rfl : k = 4 := e;obtain rfl : w = [c] := hw;exact tok_sym hc sp_sep.hd
theorem lx_all (e : Ex) : Ex.all frmE e = true → Ex.all namE e = true → LxE e := by
 induction e using Ex.ind with
 | _ op nm n args ih =>
  intro h hq;rw [all_mk,Bool.and_eq_true] at h hq;obtain ⟨hf,hr⟩ := h;obtain ⟨hg,hq⟩ := hq;have ha : ∀ a ∈ args,LxE a := fun a m => ih a m (alls_mem m hr) (alls_mem m hq);simp only [frmE,Bool.and_eq_true,Bool.or_eq_true,decide_eq_true_eq] at hf;simp only [namE,Bool.or_eq_true,Bool.not_eq_true'] at hg;obtain ⟨⟨⟨hop,hl⟩,hnm⟩,hn⟩ := hf;have hm := ok_cases hop;intro r ks hs hk
  by_cases h1 : op = 1
  ·subst h1;rw [if_pos rfl,decide_eq_true_eq] at hn
   have e1 : Ex.text (.mk 1 nm n args) = Lib.decDigits n.toInt.toNat := by
    rw [Ex.text,txt,if_pos rfl,Lib.itoa,if_neg (by omega)]
   have e2 : ktE (.mk 1 nm n args) = [(3,Lib.decDigits n.toInt.toNat)] := by
    rw [ktE,ktx,if_pos rfl,Lib.itoa,if_neg (by omega)]
   rw [e1,e2];exact ⟨.nu dec64 hs hk,num_hd⟩
  rw [if_neg h1,decide_eq_true_eq] at hn;obtain rfl := i64_zero hn
  by_cases hb : op ∈ ([11,12,13,14,15,16,17,18,19,20,21,22,23] : List UInt8)
  ·obtain ⟨b1,_,_,_,_,_,_,g1,g2,g3,g4,g5,g6,g7⟩ := bin_facts op hb;obtain ⟨a,b,rfl⟩ := args2 (l := args) (by omega)
   have e1 : Ex.text (.mk op nm 0 [a,b]) = opT (lftT (shapeOf op).lv) (a.lv,a.text) ++ (shapeOf op).tx ++ opT ((shapeOf op).lv + 1) (b.lv,b.text) := by
    rw [Ex.text,txt,if_neg g1,if_neg (by simp [g2,g3]),if_neg (by simp [g4,g5]),if_neg (by simp [g6,g7]),if_neg (by omega)]
    rfl
   rw [e1,ktE_bin hb];simp only [List.append_assoc,List.cons_append];obtain ⟨k1,_⟩ := (ha b (by simp)).opnd ((shapeOf op).lv + 1) hs hk;have k2 := Lx.bin hb k1;refine (ha a (by simp)).opnd (lftT (shapeOf op).lv) ?_ k2;rw [(bin_tx op hb).1];exact sp_sep
  have hs9 : op = 2 ∨ op = 3 ∨ op = 4 ∨ op = 5 ∨ op = 6 ∨ op = 7 ∨ op = 8 ∨ op = 9 ∨ op = 10 := ((ok_split hop).resolve_left h1).resolve_left hb
  have key : ∀ a,LxE a → Lx (91 :: (a.text ++ 93 :: r)) ((4,[91]) :: (ktE a ++ (4,[93]) :: ks)) := by
   intro a hA;obtain ⟨k1,k2⟩ := hA (93 :: r) ((4,[93]) :: ks) bk_sep (.sy (by decide) hs.hd hk);exact .sy (by decide) k2 k1
  have hn5 : (shapeOf op).nm = true → nameB nm = true := fun e => hg.resolve_left (by rw [e];decide);rcases hs9 with rfl | rfl | rfl | rfl | rfl | rfl | rfl | rfl | rfl
  ·exact ⟨Lx.kw (w := [116,114,117,101]) (by decide) hs hk,kw_hd (w := [116,114,117,101]) (by decide)⟩
  ·exact ⟨Lx.kw (w := [102,97,108,115,101]) (by decide) hs hk,kw_hd (w := [102,97,108,115,101]) (by decide)⟩
  ·exact ⟨Lx.kw (w := [110,111,119]) (by decide) hs hk,kw_hd (w := [110,111,119]) (by decide)⟩
  ·exact ⟨Lx.nm (hn5 rfl) hs hk,name_hd (hn5 rfl)⟩
  ·obtain ⟨a,rfl⟩ := args1 hl;have e1 : Ex.text (.mk 6 nm 0 [a]) ++ r = nm ++ 91 :: (a.text ++ 93 :: r) := by rw [text_mk];simp [txt,shapeOf,okOp,shapes]
   have e2 : ktE (.mk 6 nm 0 [a]) ++ ks = (1,nm) :: (4,[91]) :: (ktE a ++ (4,[93]) :: ks) := by
    rw [show ktE (.mk 6 nm 0 [a]) = (1,nm) :: (4,[91]) :: (ktE a ++ [(4,[93])]) from rfl];simp
   rw [e1,e2];exact ⟨.nm (hn5 rfl) br_sep (key a (ha a (by simp))),name_hd (hn5 rfl)⟩
  ·obtain ⟨a,rfl⟩ := args1 hl;have e1 : Ex.text (.mk 7 nm 0 [a]) ++ r = [104,97,115] ++ 32 :: (nm ++ 91 :: (a.text ++ 93 :: r)) := by rw [text_mk];simp [txt,shapeOf,okOp,shapes]
   have e2 : ktE (.mk 7 nm 0 [a]) ++ ks = (2,[104,97,115]) :: (1,nm) :: (4,[91]) :: (ktE a ++ (4,[93]) :: ks) := by
    rw [show ktE (.mk 7 nm 0 [a]) = (2,[104,97,115]) :: (1,nm) :: (4,[91]) :: (ktE a ++ [(4,[93])]) from rfl];simp
   rw [e1,e2];exact ⟨.kw (by decide) sp_sep (.sp (.nm (hn5 rfl) br_sep (key a (ha a (by simp))))),kw_hd (by decide)⟩
  ·obtain rfl := args0 hl;have e1 : Ex.text (.mk 8 nm 0 []) ++ r = [115,105,122,101] ++ 32 :: (nm ++ r) := by rw [text_mk];simp [txt,shapeOf,okOp,shapes]
   rw [e1];exact ⟨.kw (by decide) sp_sep (.sp (.nm (hn5 rfl) hs hk)),kw_hd (by decide)⟩
  ·obtain ⟨a,rfl⟩ := args1 hl;obtain ⟨k1,k2⟩ := (ha a (by simp)).opnd 6 hs hk;have e1 : Ex.text (.mk 9 nm 0 [a]) ++ r = 45 :: (opT 6 (a.lv,a.text) ++ r) := by rw [text_mk];rfl
   rw [e1];exact ⟨.sy (by decide) k2 k1,hdB_cons (by decide)⟩
  ·obtain ⟨a,rfl⟩ := args1 hl;obtain ⟨k1,k2⟩ := (ha a (by simp)).opnd 6 hs hk;have e1 : Ex.text (.mk 10 nm 0 [a]) ++ r = [110,111,116] ++ 32 :: (opT 6 (a.lv,a.text) ++ r) := by rw [text_mk];rfl
   rw [e1];exact ⟨.kw (by decide) sp_sep (.sp k1),kw_hd (by decide)⟩
end Go.Proofs.YtidclioghdbphaaGreatDoor
namespace Go.Proofs.YtidclioghdbphaaGreatDoor
open Go.RowKit Go.Par Go.Sx
theorem misBs_any : ∀ l,misBs l = l.any misB
 | [] => rfl
 | e :: r => by rw [misBs,List.any_cons,misBs_any r]
theorem termBs_all : ∀ l,termBs l = l.all termB
 | [] => rfl
 | e :: r => by rw [termBs,List.all_cons,termBs_all r]
theorem nins46 : ∀ {l : Str},l.all insB = true → splitF l = none
 | [],_ => rfl
 | c :: r,h => by
  rw [List.all_cons,Bool.and_eq_true] at h
  have hc : ¬ c = 46 := by
   rintro rfl;exact absurd h.1 (by decide)
  rw [splitF,if_neg hc,nins46 h.2];rfl
theorem op_cases {q : UInt8 → Prop} [DecidablePred q] (h : ∀ i ∈ List.range 256,q (UInt8.ofNat i)) (op : UInt8) : q op := by
 have := h op.toNat (List.mem_range.2 op.toNat_lt)
 rwa [UInt8.ofNat_toNat] at this
def trmB (op : UInt8) (nm : Str) (n : Int64) (k : Nat) : Bool :=
 (decide (op = 1) || decide (op = 4) || decide (op = 5) || decide (op = 6) || decide (op = 8) || decide (op = 9) || (decide (11 ≤ op.toNat) && decide (op.toNat ≤ 15))) && decide (arR op.toNat = (k : Nat)) && (decide (op = 1) || decide (n = 0)) && decide (0 ≤ n.toInt) && (decide (nm = []) || decide (op = 5) || decide (op = 6) || decide (op = 8))
theorem decLn {m : Int} {k : Nat} {n : Nat} (h : m = (k : Nat)) : decide (m = (n : Nat)) = decide (n = k) := by
 rw [h,Bool.eq_iff_iff,decide_eq_true_eq,decide_eq_true_eq];omega
theorem term_rec (op : UInt8) (nm : Str) (n : Int64) (args : List Ex) : termB (.mk op nm n args) = (trmB op nm n args.length && args.all termB) := by
 rw [termB,termBs_all];unfold trmB
 have r1 : decide (n = 0) = true → decide (0 ≤ n.toInt) = true := by
  intro h;rw [decide_eq_true_eq] at h;subst h
  decide
 have r2 : decide (args.length = 0) = true → args.all termB = true := by
  intro h;rw [decide_eq_true_eq] at h;rw [List.eq_nil_of_length_eq_zero h];rfl
 generalize args.all termB = z at r2 ⊢;generalize decide (0 ≤ n.toInt) = c at r1 ⊢;generalize decide (n = 0) = b at r1 ⊢;generalize decide (nm = []) = a
 by_cases h1 : op = 1
 ·subst h1;rw [decLn (k := 0) (by decide)];generalize decide (args.length = 0) = d at r2 ⊢;simp only [if_true]
  revert a b c d z;decide
 by_cases h4 : op = 4
 ·subst h4;rw [decLn (k := 0) (by decide)];generalize decide (args.length = 0) = d at r2 ⊢;simp only [if_neg (show ¬ (4 : UInt8) = 1 by decide),if_true]
  revert a b c d z;decide
 by_cases h5 : op = 5 ∨ op = 8
 ·rw [if_neg h1,if_neg h4,if_pos h5];have e : arR op.toNat = 0 := by rcases h5 with rfl | rfl <;> decide
  rw [decLn (k := 0) (by rw [e];rfl)];generalize decide (args.length = 0) = d at r2 ⊢;rcases h5 with rfl | rfl <;> (revert a b c d z;decide)
 by_cases h6 : op = 6
 ·subst h6;rw [decLn (k := 1) (by decide)];generalize decide (args.length = 1) = d;clear r2;simp only [if_neg (show ¬ (6 : UInt8) = 1 by decide),if_neg (show ¬ (6 : UInt8) = 4 by decide),if_neg (show ¬ ((6 : UInt8) = 5 ∨ (6 : UInt8) = 8) by decide),if_true]
  revert a b c d z;decide
 by_cases h9 : op = 9
 ·subst h9;rw [decLn (k := 1) (by decide)];generalize decide (args.length = 1) = d;clear r2;simp only [if_neg (show ¬ (9 : UInt8) = 1 by decide),if_neg (show ¬ (9 : UInt8) = 4 by decide),if_neg (show ¬ ((9 : UInt8) = 5 ∨ (9 : UInt8) = 8) by decide),if_neg (show ¬ (9 : UInt8) = 6 by decide),if_true]
  revert a b c d z;decide
 rw [if_neg h1,if_neg h4,if_neg h5,if_neg h6,if_neg h9];clear r2
 by_cases hb : op = 11 ∨ op = 12 ∨ op = 13 ∨ op = 14 ∨ op = 15
 ·rw [if_pos hb];have e : arR op.toNat = 2 := by rcases hb with rfl | rfl | rfl | rfl | rfl <;> decide
  rw [decLn (k := 2) (by rw [e];rfl)];generalize decide (args.length = 2) = d;rcases hb with rfl | rfl | rfl | rfl | rfl <;> (revert a b c d z;decide)
 ·rw [if_neg hb]
  have e : (decide (op = 1) || decide (op = 4) || decide (op = 5) || decide (op = 6) || decide (op = 8) || decide (op = 9) || (decide (11 ≤ op.toNat) && decide (op.toNat ≤ 15))) = false := by
   have := op_cases (q := fun op => op = 1 ∨ op = 4 ∨ (op = 5 ∨ op = 8) ∨ op = 6 ∨ op = 9 ∨ (op = 11 ∨ op = 12 ∨ op = 13 ∨ op = 14 ∨ op = 15) ∨ (decide (op = 1) || decide (op = 4) || decide (op = 5) || decide (op = 6) || decide (op = 8) || decide (op = 9) || (decide (11 ≤ op.toNat) && decide (op.toNat ≤ 15))) = false) (by decide +kernel) op;rcases this with h | h | h | h | h | h | h
   ·exact absurd h h1
   ·exact absurd h h4
   ·exact absurd h h5
   ·exact absurd h h6
   ·exact absurd h h9
   ·exact absurd h hb
   ·exact h
  rw [e];rfl
structure Nf where
 op : UInt8
 nm : UInt8
 fd : UInt8
 ct : UInt8
 odd : Bool
 a : Int64
 b : Int64
 ts : List Nd
def dNf (x : Nf) : D := .str [.val (.int .u8 x.op.toNat),.val (.int .u8 x.nm.toNat),.val (.int .u8 x.fd.toNat),.val (.int .u8 x.ct.toNat),.val (.bool x.odd),.val (.int .i64 x.a.toInt),.val (.int .i64 x.b.toInt),.seq 5 (x.ts.map dNd)]
def cNf (x : Nf) (s : Value) : List Value := [.int .u8 x.op.toNat,.int .u8 x.nm.toNat,.int .u8 x.fd.toNat,.int .u8 x.ct.toNat,.bool x.odd,.int .i64 x.a.toInt,.int .i64 x.b.toInt,s]
theorem nf_open {H : Hp} {x : Nf} {cs : List Value} (h : Rep H (dNf x) cs) : ∃ p c,cs = cNf x (.slice p x.ts.length c) ∧ Rep H (.seq 5 (x.ts.map dNd)) [.slice p x.ts.length c] := by
 rw [dNf,repS] at h;obtain ⟨_,rfl,_,_,h⟩ := repL_val.1 h;obtain ⟨_,rfl,_,_,h⟩ := repL_val.1 h;obtain ⟨_,rfl,_,_,h⟩ := repL_val.1 h;obtain ⟨_,rfl,_,_,h⟩ := repL_val.1 h;obtain ⟨_,rfl,_,_,h⟩ := repL_val.1 h;obtain ⟨_,rfl,_,_,h⟩ := repL_val.1 h;obtain ⟨_,rfl,_,_,h⟩ := repL_val.1 h;obtain ⟨p,c,_,rfl,hs,h⟩ := repL_seq.1 h;rw [repL_nil] at h;subst h;rw [List.length_map] at hs;exact ⟨p,c,by rw [List.length_map];rfl,hs⟩
def pr1 (op : UInt8) : UInt8 := if op = 7 ∨ op = 10 then 9 else op
def pr2 (op : UInt8) : UInt8 := if op = 2 ∨ op = 3 then 4 else op
def pr3 (op : UInt8) : UInt8 := if 16 ≤ op.toNat then UInt8.ofNat (11 + op.toNat % 5) else op
def prO (op : UInt8) : UInt8 := pr3 (pr2 (pr1 op))
def prM (op : UInt8) (nm : Str) : Str := if op = 7 ∨ op = 10 then [] else nm
def prN (op : UInt8) (nm : Str) : Str := if op = 6 ∨ op = 8 ∨ (op = 5 ∧ nm.length % 2 = 0) then [99,46] ++ nm else nm
mutual
def prE : Ex → Ex
 | .mk op nm n args => .mk (prO op) (prN (prO op) (prM op nm)) n (prEs args)
def prEs : List Ex → List Ex
 | [] => []
 | e :: r => prE e :: prEs r
end
theorem prEs_map : ∀ l,prEs l = l.map prE
 | [] => rfl
 | e :: r => by rw [prEs,prEs_map r];rfl
theorem prE_mk (op : UInt8) (nm : Str) (n : Int64) (args : List Ex) : prE (.mk op nm n args) = .mk (prO op) (prN (prO op) (prM op nm)) n (args.map prE) := by rw [prE,prEs_map]
theorem prM_len (op : UInt8) (nm : Str) : (prM op nm).length ≤ nm.length := by
 unfold prM
 split
 ·exact Nat.zero_le _
 ·exact Nat.le_refl _
theorem prN_len (op : UInt8) (nm : Str) : (prN op nm).length ≤ nm.length + 2 := by
 unfold prN
 split
 ·rw [List.length_append];show 2 + _ ≤ _;omega
 ·omega
theorem prE_count (e : Ex) : (prE e).count = e.count := by
 induction e using Ex.ind with | _ op nm n args ih
 rw [prE_mk,ex_count,ex_count]
 congr 1
 induction args with
 | nil => rfl
 | cons a r ih2 => rw [List.map_cons,Ex.counts,Ex.counts,ih a (List.mem_cons_self ..),ih2 fun x hx => ih x (List.mem_cons_of_mem _ hx)]
theorem prE_depth (e : Ex) : (prE e).depth = e.depth := by
 induction e using Ex.ind with | _ op nm n args ih
 rw [prE_mk,depth_mk,depth_mk]
 congr 1
 induction args with
 | nil => rfl
 | cons a r ih2 => rw [List.map_cons,Ex.deeps,Ex.deeps,ih a (List.mem_cons_self ..),ih2 fun x hx => ih x (List.mem_cons_of_mem _ hx)]
theorem prE_narrow (e : Ex) : Ex.all narrow (prE e) = Ex.all narrow e := by
 induction e using Ex.ind with | _ op nm n args ih
 rw [prE_mk,all_mk,all_mk,narrow_mk,narrow_mk,List.length_map,alls_allE,alls_allE]
 congr 1
 rw [Bool.eq_iff_iff,List.all_eq_true,List.all_eq_true]
 constructor
 ·intro h x hx;rw [← ih x hx];exact h _ (List.mem_map.2 ⟨x,hx,rfl⟩)
 ·intro h x hx;obtain ⟨y,hy,rfl⟩ := List.mem_map.1 hx;rw [ih y hy];exact h y hy
def gdE (e : Ex) : Bool := decide (e.depth ≤ 34) && Ex.all narrow e
def gdN (f : Fm) : Bool := decide (f.op.toNat ≤ 18) && decide (f.ex.length ≤ 4) && decide (f.args.length ≤ 3) && f.ex.all gdE
def gdF (f : Fm) : Bool := Fm.all gdN f
theorem gdF_mk {op : UInt8} {nm fd : Str} {a b : Int64} {ex : List Ex} {args : List Fm} : gdF (.mk op nm fd a b ex args) = true ↔ (op.toNat ≤ 18 ∧ ex.length ≤ 4 ∧ args.length ≤ 3 ∧ ∀ e ∈ ex,gdE e = true) ∧ ∀ g ∈ args,gdF g = true := by
 unfold gdF;rw [fm_allL,Bool.and_eq_true,List.all_eq_true];unfold gdN;rw [Bool.and_eq_true,Bool.and_eq_true,Bool.and_eq_true,decide_eq_true_eq,decide_eq_true_eq,decide_eq_true_eq,List.all_eq_true];exact ⟨fun h => ⟨⟨h.1.1.1.1,h.1.1.1.2,h.1.1.2,h.1.2⟩,h.2⟩,fun h => ⟨⟨⟨⟨h.1.1,h.1.2.1⟩,h.1.2.2.1⟩,h.1.2.2.2⟩,h.2⟩⟩
theorem Fx.call129 : callN Tryz.prog 129 = Bool.true := by kernel_rfl
theorem ex_is (e : Ex) : ∃ o m n a,e = .mk o m n a := by
 obtain ⟨o,m,n,a⟩ := e;exact ⟨o,m,n,a,rfl⟩
theorem pr1a {o : UInt8} {m : Str} (h : ((o.toNat : Nat) : Int) = 7) : ((9 : UInt8),([] : Str)) = (pr1 o,prM o m) := by unfold pr1 prM;rw [if_pos (.inl (UInt8.toNat_inj.1 (by show o.toNat = 7;omega) : o = 7)),if_pos (.inl (UInt8.toNat_inj.1 (by show o.toNat = 7;omega) : o = 7))]
theorem pr1b {o : UInt8} {m : Str} (h : ((o.toNat : Nat) : Int) = 10) : ((9 : UInt8),([] : Str)) = (pr1 o,prM o m) := by unfold pr1 prM;rw [if_pos (.inr (UInt8.toNat_inj.1 (by show o.toNat = 10;omega) : o = 10)),if_pos (.inr (UInt8.toNat_inj.1 (by show o.toNat = 10;omega) : o = 10))]
theorem pr1f {o : UInt8} {m : Str} (h : ¬ ((o.toNat : Nat) : Int) = 7) (k : ¬ ((o.toNat : Nat) : Int) = 10) : (o,m) = (pr1 o,prM o m) := by unfold pr1 prM;rw [if_neg (not_or.2 ⟨(fun e : o = 7 => h (by rw [e];rfl)),(fun e : o = 10 => k (by rw [e];rfl))⟩),if_neg (not_or.2 ⟨(fun e : o = 7 => h (by rw [e];rfl)),(fun e : o = 10 => k (by rw [e];rfl))⟩)]
theorem pr2a {o : UInt8} {m : Str} (h : ((o.toNat : Nat) : Int) = 2) : ((4 : UInt8),m) = (pr2 o,m) := by unfold pr2;rw [if_pos (.inl (UInt8.toNat_inj.1 (by show o.toNat = 2;omega) : o = 2))]
theorem pr2b {o : UInt8} {m : Str} (h : ((o.toNat : Nat) : Int) = 3) : ((4 : UInt8),m) = (pr2 o,m) := by unfold pr2;rw [if_pos (.inr (UInt8.toNat_inj.1 (by show o.toNat = 3;omega) : o = 3))]
theorem pr2f {o : UInt8} {m : Str} (h : ¬ ((o.toNat : Nat) : Int) = 2) (k : ¬ ((o.toNat : Nat) : Int) = 3) : (o,m) = (pr2 o,m) := by unfold pr2;rw [if_neg (not_or.2 ⟨(fun e : o = 2 => h (by rw [e];rfl)),(fun e : o = 3 => k (by rw [e];rfl))⟩)]
theorem pr3t {op : UInt8} {m : Str} (h : (16 : Int) ≤ (((pr2 (pr1 op)).toNat : Nat) : Int)) : (UInt8.ofNat (11 + (pr2 (pr1 op)).toNat % 5),m) = (prO op,m) := by unfold prO pr3;rw [if_pos (by omega)]
theorem pr3f {op : UInt8} {m : Str} (h : ¬ (16 : Int) ≤ (((pr2 (pr1 op)).toNat : Nat) : Int)) : (pr2 (pr1 op),m) = (prO op,m) := by unfold prO pr3;rw [if_neg (by omega)]
theorem pr4a {o : UInt8} {m : Str} (h : ((o.toNat : Nat) : Int) = 6) : (o,([99,46] : Str) ++ m) = (o,prN o m) := by unfold prN;rw [if_pos (.inl (UInt8.toNat_inj.1 (by show o.toNat = 6;omega) : o = 6))]
theorem pr4b {o : UInt8} {m : Str} (h : ((o.toNat : Nat) : Int) = 8) : (o,([99,46] : Str) ++ m) = (o,prN o m) := by unfold prN;rw [if_pos (.inr (.inl (UInt8.toNat_inj.1 (by show o.toNat = 8;omega) : o = 8)))]
theorem pr4c {o : UInt8} {m : Str} (h : ((o.toNat : Nat) : Int) = 5) (k : ((m.length % 2 : Nat) : Int) = 0) : (o,([99,46] : Str) ++ m) = (o,prN o m) := by unfold prN;rw [if_pos (.inr (.inr ⟨(UInt8.toNat_inj.1 (by show o.toNat = 5;omega) : o = 5),by omega⟩))]
theorem pr4f {o : UInt8} {m : Str} (h : ¬ ((o.toNat : Nat) : Int) = 6) (h8 : ¬ ((o.toNat : Nat) : Int) = 8) (k : ¬ ((m.length % 2 : Nat) : Int) = 0) : (o,m) = (o,prN o m) := by unfold prN;rw [if_neg (by rintro (e | e | e);exact h (by rw [e];rfl);exact h8 (by rw [e];rfl);omega)]
theorem pr4g {o : UInt8} {m : Str} (h : ¬ ((o.toNat : Nat) : Int) = 6) (h8 : ¬ ((o.toNat : Nat) : Int) = 8) (k : ¬ ((o.toNat : Nat) : Int) = 5) : (o,m) = (o,prN o m) := by unfold prN;rw [if_neg (by rintro (e | e | e);exact h (by rw [e];rfl);exact h8 (by rw [e];rfl);exact k (by rw [e.1];rfl))]
theorem pr_add (n : Nat) : IntKind.i64.wrap (11 + ((n % 5 : Nat) : Int)) = (((UInt8.ofNat (11 + n % 5)).toNat : Nat) : Int) := by
 rw [UInt8.toNat_ofNat_of_lt' (by show 11 + n % 5 < 256;omega)];exact (w6 (by omega)).trans (by omega)
def PairsOf (e : Ex) : Prop := Ex.all n13 e = true → Ex.all narrow e = true → ∀ (H : Hp) (cs : List Value) (w : World),Rep H (dEx .i64 e) cs → Agr H w →
 Calls Tryz.prog 129 #[.agg cs.toArray] w fun r w' => ∃ x H',Rep H' (dEx .i64 (prE e)) x ∧ r = .returned (.agg x.toArray) ∧ Grow H w H' w'
set_option maxRecDepth 100000 in
theorem pairs_any (e : Ex) : PairsOf e := by
 induction e using Ex.ind with | _ op nm nn args ih
 intro hn hw H cs w h hA;rw [all_mk,Bool.and_eq_true] at hn hw;have hn3 : args.length ≤ 3 := of_decide_eq_true hw.1;have hn13 : nm.length ≤ 13 := of_decide_eq_true hn.1;have hpm := prM_len op nm;have hpn := prN_len (prO op) (prM op nm);obtain ⟨p,c,rfl,hs,hnm⟩ := ex_open h;have hcap := hs.cap;refine Sx.enter (H := H) Tryz.func129 rfl Tryz.ntmps129 rfl hA ?_;refine .sr<|.bx Z Z Z fun b1 => .al Fx.zero83 Z fun b2 => .nt<|.cu (X := UInt8 × Str) [(1,_),(2,_)] ⟨rfl,rfl,trivial⟩ (fun z => []) (fun z => H) (fun z => [.box b1 [.int .i64 (z.1).toNat,strV (z.2),.int .i64 nn.toInt,.slice p args.length c] 83,.box b2 [.int .i64 0,.string ⟨#[]⟩,.int .i64 0,.slice none 0 0] 83]) (fun z => z = (pr1 op,prM op nm)) ?_ fun z hC => ?_
 ·
  refine .sr<|.yv (.fieldAddr Z Fx.field83_0) Z<|.yv (.load Z Fx.agg3 (.tail _<|.head _) Z) Z<|.yv (.eql Z Z) Z<|.m Z Z<|.b2 (fun h9 => ?_) (fun h9 => ?_)
  ·try simp only [dt] at h9
   exact .gF Z Z Z Z<|.gF Z Z Z Z<|.gF Z Z Z Z<|.yv (.pickT Z Z) Z<|.nt<|.cT Z<|.sr<|.yv (.fieldAddr Z Fx.field83_0) Z<|.st (.tail<|.head) Z Z Fx.size3 Z (nb Z) Z<|.nt<|.rg<|.yv (.fieldAddr Z Fx.field83_1) Z<|.st (.tail<|.head) Z Z Fx.size9 Z (nb Z) Z<|.nt<|.me (9,([] : Str)) trivial ⟨rfl,rfl,trivial⟩ (fun _ s => s.pick [1,0] [_,_] Z Z) (pr1a h9)
  try simp only [df] at h9
  refine .gd Z Z<|.yv (.fieldAddr Z Fx.field83_0) Z<|.gd Z Z<|.yv (.load Z Fx.agg3 (.tail _<|.head _) Z) Z<|.gd Z Z<|.yv (.eql Z Z) Z<|.yv (.pickF Z Z) Z<|.nt<|.cd Z (fun h13 => ?_) (fun h13 => ?_)
  ·try simp only [dt] at h13
   exact .sr<|.yv (.fieldAddr Z Fx.field83_0) Z<|.st (.tail<|.head) Z Z Fx.size3 Z (nb Z) Z<|.nt<|.rg<|.yv (.fieldAddr Z Fx.field83_1) Z<|.st (.tail<|.head) Z Z Fx.size9 Z (nb Z) Z<|.nt<|.me (9,([] : Str)) trivial ⟨rfl,rfl,trivial⟩ (fun _ s => s.pick [1,0] [_,_] Z Z) (pr1b h13)
  try simp only [df] at h13
  exact .sk<|.tN<|.me (op,nm) trivial ⟨rfl,rfl,trivial⟩ (fun _ s => s.pick [1,0] [_,_] Z Z) (pr1f h9 h13)
 subst hC;dsimp only;refine .cu (X := UInt8 × Str) [(1,_),(2,_)] ⟨rfl,rfl,trivial⟩ (fun z => []) (fun z => H) (fun z => [.box b1 [.int .i64 (z.1).toNat,strV (z.2),.int .i64 nn.toInt,.slice p args.length c] 83,.box b2 [.int .i64 0,.string ⟨#[]⟩,.int .i64 0,.slice none 0 0] 83]) (fun z => z = (pr2 (pr1 op),prM op nm)) ?_ fun z hC => ?_
 ·
  refine .sr<|.yv (.fieldAddr Z Fx.field83_0) Z<|.yv (.load Z Fx.agg3 (.head _) Z) Z<|.yv (.eql Z Z) Z<|.m Z Z<|.b2 (fun h19 => ?_) (fun h19 => ?_)
  ·try simp only [dt] at h19
   exact .gF Z Z Z Z<|.gF Z Z Z Z<|.gF Z Z Z Z<|.yv (.pickT Z Z) Z<|.nt<|.cT Z<|.rg<|.yv (.fieldAddr Z Fx.field83_0) Z<|.st .head Z Z Fx.size3 Z (nb Z) Z<|.nt<|.me (4,prM op nm) trivial ⟨rfl,rfl,trivial⟩ (fun _ s => s) (pr2a h19)
  try simp only [df] at h19
  refine .gd Z Z<|.yv (.fieldAddr Z Fx.field83_0) Z<|.gd Z Z<|.yv (.load Z Fx.agg3 (.head _) Z) Z<|.gd Z Z<|.yv (.eql Z Z) Z<|.yv (.pickF Z Z) Z<|.nt<|.cd Z (fun h23 => ?_) (fun h23 => ?_)
  ·try simp only [dt] at h23
   exact .rg<|.yv (.fieldAddr Z Fx.field83_0) Z<|.st .head Z Z Fx.size3 Z (nb Z) Z<|.nt<|.me (4,prM op nm) trivial ⟨rfl,rfl,trivial⟩ (fun _ s => s) (pr2b h23)
  try simp only [df] at h23
  exact .sk<|.tN<|.me (pr1 op,prM op nm) trivial ⟨rfl,rfl,trivial⟩ (fun _ s => s) (pr2f h19 h23)
 subst hC;dsimp only;refine .cu (X := UInt8 × Str) [(1,_),(2,_)] ⟨rfl,rfl,trivial⟩ (fun z => []) (fun z => H) (fun z => [.box b1 [.int .i64 (z.1).toNat,strV (z.2),.int .i64 nn.toInt,.slice p args.length c] 83,.box b2 [.int .i64 0,.string ⟨#[]⟩,.int .i64 0,.slice none 0 0] 83]) (fun z => z = (prO op,prM op nm)) ?_ fun z hC => ?_
 ·
  refine .sr<|.yv (.fieldAddr Z Fx.field83_0) Z<|.yv (.load Z Fx.agg3 (.head _) Z) Z<|.yv (.geq Z Z) Z<|.nt<|.cd Z (fun h27 => ?_) (fun h27 => ?_)
  ·try simp only [dt] at h27
   exact .rg<|.yv (.fieldAddr Z Fx.field83_0) Z<|.yv (.load Z Fx.agg3 (.head _) Z) Z<|.yv (.rem Z Z (by decide) (c := (((pr2 (pr1 op)).toNat % 5 : Nat) : Int)) (by rw [Int.tmod_eq_emod_of_nonneg (by omega)];omega)) Z<|.yv (.add Z Z (c := (((UInt8.ofNat (11 + (pr2 (pr1 op)).toNat % 5)).toNat : Nat) : Int)) (pr_add _)) Z<|.yv (.fieldAddr Z Fx.field83_0) Z<|.st .head Z Z Fx.size3 Z (nb Z) Z<|.nt<|.me (UInt8.ofNat (11 + (pr2 (pr1 op)).toNat % 5),prM op nm) trivial ⟨rfl,rfl,trivial⟩ (fun _ s => s) (pr3t h27)
  try simp only [df] at h27
  exact .sk<|.tN<|.me (pr2 (pr1 op),prM op nm) trivial ⟨rfl,rfl,trivial⟩ (fun _ s => s) (pr3f h27)
 subst hC;dsimp only;refine .cu (X := UInt8 × Str) [(1,_),(2,_)] ⟨rfl,rfl,trivial⟩ (fun z => []) (fun z => H) (fun z => [.box b1 [.int .i64 (z.1).toNat,strV (z.2),.int .i64 nn.toInt,.slice p args.length c] 83,.box b2 [.int .i64 0,.string ⟨#[]⟩,.int .i64 0,.slice none 0 0] 83]) (fun z => z = (prO op,prN (prO op) (prM op nm))) ?_ fun z hC => ?_
 ·
  refine .sr<|.yv (.fieldAddr Z Fx.field83_0) Z<|.yv (.load Z Fx.agg3 (.head _) Z) Z<|.yv (.eql Z Z) Z<|.m Z Z<|.b2 (fun h36 => ?_) (fun h36 => ?_)
  ·try simp only [dt] at h36
   exact .gF Z Z Z Z<|.gF Z Z Z Z<|.gF Z Z Z Z<|.yv (.pickT Z Z) Z<|.m Z Z<|.gF Z Z Z Z<|.gF Z Z Z Z<|.gF Z Z Z Z<|.gF Z Z Z Z<|.gU Z Z Z<|.gU Z Z Z<|.gU Z Z Z<|.gU Z Z Z<|.gU Z Z Z<|.gF Z Z Z Z<|.yv (.pickT Z Z) Z<|.nt<|.cT Z<|.rg<|.yv (.fieldAddr Z Fx.field83_1) Z<|.yv (.load Z Fx.agg9 (.head _) Z) Z<|.yv (.app Z Z (by simp only [List.length_cons,List.length_nil];omega)) Z<|.yv (.fieldAddr Z Fx.field83_1) Z<|.st .head Z Z Fx.size9 Z (nb Z) Z<|.nt<|.me (prO op,([99,46] : Str) ++ prM op nm) trivial ⟨rfl,rfl,trivial⟩ (fun _ s => s) (pr4a h36)
  try simp only [df] at h36
  refine .gd Z Z<|.yv (.fieldAddr Z Fx.field83_0) Z<|.gd Z Z<|.yv (.load Z Fx.agg3 (.head _) Z) Z<|.gd Z Z<|.yv (.eql Z Z) Z<|.yv (.pickF Z Z) Z<|.m Z Z<|.b2 (fun h41 => ?_) (fun h41 => ?_)
  ·try simp only [dt] at h41
   exact .gF Z Z Z Z<|.gF Z Z Z Z<|.gF Z Z Z Z<|.gF Z Z Z Z<|.gU Z Z Z<|.gU Z Z Z<|.gU Z Z Z<|.gU Z Z Z<|.gU Z Z Z<|.gF Z Z Z Z<|.yv (.pickT Z Z) Z<|.nt<|.cT Z<|.rg<|.yv (.fieldAddr Z Fx.field83_1) Z<|.yv (.load Z Fx.agg9 (.head _) Z) Z<|.yv (.app Z Z (by simp only [List.length_cons,List.length_nil];omega)) Z<|.yv (.fieldAddr Z Fx.field83_1) Z<|.st .head Z Z Fx.size9 Z (nb Z) Z<|.nt<|.me (prO op,([99,46] : Str) ++ prM op nm) trivial ⟨rfl,rfl,trivial⟩ (fun _ s => s) (pr4b h41)
  try simp only [df] at h41
  refine .gd Z Z<|.yv (.fieldAddr Z Fx.field83_0) Z<|.gd Z Z<|.yv (.load Z Fx.agg3 (.head _) Z) Z<|.gd Z Z<|.yv (.eql Z Z) Z<|.gd Z Z<|.yv (.move Z) Z<|.b2 (fun h45 => ?_) (fun h45 => ?_)
  ·try simp only [dt] at h45
   refine .gd Z Z<|.yv (.fieldAddr Z Fx.field83_1) Z<|.gd Z Z<|.yv (.load Z Fx.agg9 (.head _) Z) Z<|.gd Z Z<|.yv (.lenS Fx.str9 Z) Z<|.gd Z Z<|.yv (.rem Z Z (by decide) (c := (((prM op nm).length % 2 : Nat) : Int)) (by rw [Int.tmod_eq_emod_of_nonneg (by omega)];omega)) Z<|.gd Z Z<|.yv (.eql Z Z) Z<|.gd Z Z<|.yv (.pickT Z Z) Z<|.yv (.pickF Z Z) Z<|.nt<|.cd Z (fun h52 => ?_) (fun h52 => ?_)
   ·try simp only [dt] at h52
    exact .rg<|.yv (.fieldAddr Z Fx.field83_1) Z<|.yv (.load Z Fx.agg9 (.head _) Z) Z<|.yv (.app Z Z (by simp only [List.length_cons,List.length_nil];omega)) Z<|.yv (.fieldAddr Z Fx.field83_1) Z<|.st .head Z Z Fx.size9 Z (nb Z) Z<|.nt<|.me (prO op,([99,46] : Str) ++ prM op nm) trivial ⟨rfl,rfl,trivial⟩ (fun _ s => s) (pr4c h45 h52)
   try simp only [df] at h52
   exact .sk<|.tN<|.me (prO op,prM op nm) trivial ⟨rfl,rfl,trivial⟩ (fun _ s => s) (pr4f h36 h41 h52)
  try simp only [df] at h45
  exact .gF Z Z Z Z<|.gF Z Z Z Z<|.gF Z Z Z Z<|.gF Z Z Z Z<|.gF Z Z Z Z<|.gd Z Z<|.yv (.pickF Z Z) Z<|.yv (.pickF Z Z) Z<|.nt<|.cF Z<|.sk<|.tN<|.me (prO op,prM op nm) trivial ⟨rfl,rfl,trivial⟩ (fun _ s => s) (pr4g h36 h41 h45)
 subst hC;dsimp only;refine .sr<|.a Z Z<|.nt<|.sq<|.sq<|?_
 refine Sx.row0 83 4 ?_;refine .rg<|.yv (.fieldAddr Z Fx.field83_3) Z<|.yv (.load Z Fx.agg24 (.tail _<|.head _) Z) Z<|.yv (.lenSl Fx.sl24 Z) Z<|.m Z Z<|.nt<|.bk<|.lp (X := Nat × Hp × Value × List Value) [(1,_),(2,_),(58,_),(59,_)] ⟨rfl,rfl,rfl,rfl,trivial⟩ [_,_] (fun z => [(3,z.2.2.1),(60,.int .i64 (z.1 : Nat))]) (fun z => z.2.1) (fun z => [.row 83 4 z.2.2.1 z.1 z.2.2.2]) (fun z => z.1 ≤ args.length ∧ HUp w H z.2.1 ∧ RepZ z.2.1 4 (((args.take z.1).map prE).map (dEx .i64)) z.2.2.2) (fun z => args.length - z.1) (0,H,.slice none 0 0,[]) (fun _ s => s) ⟨rfl,rfl,trivial⟩ ⟨by simp,.refl,RepZ.nil⟩ fun z hC => ?_
 obtain ⟨k,H1,r,xs⟩ := z;dsimp only at hC ⊢;obtain ⟨hk0,u1,hz⟩ := hC;refine .sr<|.yv (.lss Z Z) Z<|.nt<|.sq<|.cd Z (fun h61 => ?_) (fun h61 => ?_)
 ·try simp only [dt] at h61
  have hk : k < args.length := by omega
  obtain ⟨bE,oE,cE,hpE,rE,lE,mE⟩ := (hs.up u1.up).elem (map_at (f := dEx .i64) hk);cases hpE;have hn1 := lalls_at hk hn.2;have hw1 := lalls_at hk hw.2;refine .sk<|.tN<|.sq<|.bk<|.sr<|.yv (.indexSl Fx.sl24 Z Z Z (by omega) (q := oE + k * 4) Z) Z<|.yv (.loadMW Z Fx.agg83 mE lE) Z<|.al Fx.zero83 Z fun b5 => .sV .head Z Z Fx.size83 lE rE.one Z<|.nt<|.rg<|.m Z Z<|.yv (.loadW Z Fx.agg83 (.head _) lE) Z<|.ct (X := List Value) Fx.call129 Z (fun W s => ih _ (List.getElem_mem hk) hn1 hw1 H1 cE W rE s.agr) Z fun x2 H2 hc2 u2 => ?_
  obtain ⟨op2,nm2,n2,args2,hx⟩ : ∃ o m n a,prE args[k] = .mk o m n a := ex_is _;rw [hx] at hc2;obtain ⟨p2,c2,rfl,hs2,hnm2⟩ := ex_open hc2;exact .bl Z (Fx.bsl24_1 _ _ _ _) Z fun b67 => .ap (news := [.int .i64 op2.toNat,strV nm2,.int .i64 n2.toInt,.slice p2 args2.length c2]) Fx.row24 Z (fun _ => (.tail<|.tail<|.head)) Z (.box (.head _) z0) Z (by simp [Value.oneCell',strV]) (by simp [maxLen];omega) (by omega) Z fun r68 _ => .a Z Z<|.nl<|.bN<|.tN<|.rg<|.yv (.add Z Z (w6 (by omega))) Z<|.m Z Z<|.nt<|.ag (x := (k,H1,r,xs)) (k + 1,H2,r68,xs ++ [.int .i64 op2.toNat,strV nm2,.int .i64 n2.toInt,.slice p2 args2.length c2]) ⟨rfl,rfl,trivial⟩ ⟨rfl,rfl,rfl,rfl,trivial⟩ (fun _ s => (s.pick [2,3,4] _ Z Z)) ⟨by dsimp only;omega,u1.trans u2,by dsimp only;rw [take_snoc hk,List.map_append,List.map_append,List.map_cons,List.map_cons,hx];exact (hz.up u2.up).snoc hc2 Z⟩ (by dsimp only;omega)
 try simp only [df] at h61
 obtain rfl : k = args.length := by omega
 rw [List.take_length] at hz;refine At.ra (.head _) fun p26 c26 e26 => ?_;subst e26;refine .ex<|.tE<|.tE<|.bE<|.tN<|.sr<|.m Z Z<|.yv (.fieldAddr Z Fx.field83_3) Z<|.st (.tail<|.head) Z Z Fx.size24 Z (nb Z) Z<|.ns<|.yv (.loadW Z Fx.agg83 (.tail _<|.head _) Z) Z<|.sW (.tail<|.tail<|.head) Z Z Fx.size83 (by simp [Value.oneCell',strV]) Z<|.nt<|.rt<|?_
 refine At.pm [0,2] [_,_] rfl rfl ?_;refine Sx.freezeSeq (ds := (args.map prE).map (dEx .i64)) (by simp) hz fun H3 p3 c3 u3 hr3 hs3 => ?_;refine Sx.ret1 (.inl rfl) rfl (.cell rfl Fx.agg83 (.head _) rfl) fun W s => ⟨_,H3,by rw [prE_mk];exact ex_shut (by omega) hs3,rfl,(u1.trans u3).grow s⟩
def rfN (k : Nat) : Bool := (decide (4 ≤ k) && decide (k ≤ 7)) || (decide (16 ≤ k) && decide (k ≤ 18))
def rfF (k : Nat) : Bool := decide (k = 4) || decide (k = 5) || decide (k = 7)
theorem tup2 {a b c d : Bool} (h1 : a = c) (h2 : b = d) : Ending.returned (.tuple #[.bool a,.bool b]) = .returned (.tuple #[.bool c,.bool d]) := by rw [h1,h2]
set_option maxRecDepth 100000 in
theorem fields_any (H : Hp) (k : Nat) (w : World) (hA : Agr H w) : Calls Tryz.prog 82 #[.int .i64 (k : Nat)] w fun r w' => r = .returned (.tuple #[.bool (rfN k),.bool (rfF k)]) ∧ Ext w w' := by
 refine Sx.enter (H := H) Tryz.func82 rfl Tryz.ntmps82 rfl hA ?_;refine .sr<|.a Z Z<|.a Z Z<|.ns<|.m Z Z<|.yv (.geq Z Z) Z<|.m Z Z<|.b2 (fun h6 => ?_) (fun h6 => ?_)
 ·try simp only [dt] at h6
  refine .gd Z Z<|.yv (.move Z) Z<|.gd Z Z<|.yv (.leq Z Z) Z<|.yv (.pickT Z Z) Z<|.m Z Z<|.b2 (fun h10 => ?_) (fun h10 => ?_)
  ·try simp only [dt] at h10
   refine .gF Z Z Z Z<|.gF Z Z Z Z<|.gF Z Z Z Z<|.gU Z Z Z<|.gU Z Z Z<|.gF Z Z Z Z<|.yv (.pickT Z Z) Z<|.m Z Z<|.yv (.eql Z Z) Z<|.m Z Z<|.b2 (fun h20 => ?_) (fun h20 => ?_)
   ·try simp only [dt] at h20
    refine .gF Z Z Z Z<|.gF Z Z Z Z<|.yv (.pickT Z Z) Z<|.m Z Z<|.gF Z Z Z Z<|.gF Z Z Z Z<|.yv (.pickT Z Z) Z<|.a Z Z<|.a Z Z<|.nt<|.rt<|?_
    refine Sx.retN (.inl rfl) rfl (.cons (.tmp rfl) (.cons (.tmp rfl) .nil)) rfl fun W s => ⟨tup2 (by unfold rfN;rw [Bool.eq_iff_iff];(try simp only [Bool.or_eq_true,Bool.and_eq_true,decide_eq_true_eq,reduceCtorEq,true_iff,false_iff,iff_true,iff_false,Bool.true_eq_false,Bool.false_eq_true]);omega) (by unfold rfF;rw [Bool.eq_iff_iff];(try simp only [Bool.or_eq_true,Bool.and_eq_true,decide_eq_true_eq,reduceCtorEq,true_iff,false_iff,iff_true,iff_false,Bool.true_eq_false,Bool.false_eq_true]);omega),s.ext⟩
   try simp only [df] at h20
   refine .gd Z Z<|.yv (.move Z) Z<|.gd Z Z<|.yv (.eql Z Z) Z<|.yv (.pickF Z Z) Z<|.m Z Z<|.b2 (fun h24 => ?_) (fun h24 => ?_)
   ·try simp only [dt] at h24
    refine .gF Z Z Z Z<|.gF Z Z Z Z<|.yv (.pickT Z Z) Z<|.a Z Z<|.a Z Z<|.nt<|.rt<|?_
    refine Sx.retN (.inl rfl) rfl (.cons (.tmp rfl) (.cons (.tmp rfl) .nil)) rfl fun W s => ⟨tup2 (by unfold rfN;rw [Bool.eq_iff_iff];(try simp only [Bool.or_eq_true,Bool.and_eq_true,decide_eq_true_eq,reduceCtorEq,true_iff,false_iff,iff_true,iff_false,Bool.true_eq_false,Bool.false_eq_true]);omega) (by unfold rfF;rw [Bool.eq_iff_iff];(try simp only [Bool.or_eq_true,Bool.and_eq_true,decide_eq_true_eq,reduceCtorEq,true_iff,false_iff,iff_true,iff_false,Bool.true_eq_false,Bool.false_eq_true]);omega),s.ext⟩
   try simp only [df] at h24
   refine .gd Z Z<|.yv (.move Z) Z<|.gd Z Z<|.yv (.eql Z Z) Z<|.yv (.pickF Z Z) Z<|.a Z Z<|.a Z Z<|.nt<|.rt<|?_
   refine Sx.retN (.inl rfl) rfl (.cons (.tmp rfl) (.cons (.tmp rfl) .nil)) rfl fun W s => ⟨tup2 (by unfold rfN;rw [Bool.eq_iff_iff];(try simp only [Bool.or_eq_true,Bool.and_eq_true,decide_eq_true_eq,reduceCtorEq,true_iff,false_iff,iff_true,iff_false,Bool.true_eq_false,Bool.false_eq_true]);omega) (by unfold rfF;rw [Bool.eq_iff_iff];(try simp only [Bool.or_eq_true,Bool.and_eq_true,decide_eq_true_eq,reduceCtorEq,true_iff,false_iff,iff_true,iff_false,Bool.true_eq_false,Bool.false_eq_true]);omega),s.ext⟩
  try simp only [df] at h10
  refine .gd Z Z<|.yv (.move Z) Z<|.gd Z Z<|.yv (.geq Z Z) Z<|.gd Z Z<|.yv (.move Z) Z<|.b2 (fun h13 => ?_) (fun h13 => ?_)
  ·try simp only [dt] at h13
   refine .gd Z Z<|.yv (.move Z) Z<|.gd Z Z<|.yv (.leq Z Z) Z<|.gd Z Z<|.yv (.pickT Z Z) Z<|.yv (.pickF Z Z) Z<|.m Z Z<|.yv (.eql Z Z) Z<|.m Z Z<|.b2 (fun h20 => ?_) (fun h20 => ?_)
   ·try simp only [dt] at h20
    refine .gF Z Z Z Z<|.gF Z Z Z Z<|.yv (.pickT Z Z) Z<|.m Z Z<|.gF Z Z Z Z<|.gF Z Z Z Z<|.yv (.pickT Z Z) Z<|.a Z Z<|.a Z Z<|.nt<|.rt<|?_
    refine Sx.retN (.inl rfl) rfl (.cons (.tmp rfl) (.cons (.tmp rfl) .nil)) rfl fun W s => ⟨tup2 (by unfold rfN;rw [Bool.eq_iff_iff];(try simp only [Bool.or_eq_true,Bool.and_eq_true,decide_eq_true_eq,reduceCtorEq,true_iff,false_iff,iff_true,iff_false,Bool.true_eq_false,Bool.false_eq_true]);omega) (by unfold rfF;rw [Bool.eq_iff_iff];(try simp only [Bool.or_eq_true,Bool.and_eq_true,decide_eq_true_eq,reduceCtorEq,true_iff,false_iff,iff_true,iff_false,Bool.true_eq_false,Bool.false_eq_true]);omega),s.ext⟩
   try simp only [df] at h20
   refine .gd Z Z<|.yv (.move Z) Z<|.gd Z Z<|.yv (.eql Z Z) Z<|.yv (.pickF Z Z) Z<|.m Z Z<|.b2 (fun h24 => ?_) (fun h24 => ?_)
   ·try simp only [dt] at h24
    refine .gF Z Z Z Z<|.gF Z Z Z Z<|.yv (.pickT Z Z) Z<|.a Z Z<|.a Z Z<|.nt<|.rt<|?_
    refine Sx.retN (.inl rfl) rfl (.cons (.tmp rfl) (.cons (.tmp rfl) .nil)) rfl fun W s => ⟨tup2 (by unfold rfN;rw [Bool.eq_iff_iff];(try simp only [Bool.or_eq_true,Bool.and_eq_true,decide_eq_true_eq,reduceCtorEq,true_iff,false_iff,iff_true,iff_false,Bool.true_eq_false,Bool.false_eq_true]);omega) (by unfold rfF;rw [Bool.eq_iff_iff];(try simp only [Bool.or_eq_true,Bool.and_eq_true,decide_eq_true_eq,reduceCtorEq,true_iff,false_iff,iff_true,iff_false,Bool.true_eq_false,Bool.false_eq_true]);omega),s.ext⟩
   try simp only [df] at h24
   refine .gd Z Z<|.yv (.move Z) Z<|.gd Z Z<|.yv (.eql Z Z) Z<|.yv (.pickF Z Z) Z<|.a Z Z<|.a Z Z<|.nt<|.rt<|?_
   refine Sx.retN (.inl rfl) rfl (.cons (.tmp rfl) (.cons (.tmp rfl) .nil)) rfl fun W s => ⟨tup2 (by unfold rfN;rw [Bool.eq_iff_iff];(try simp only [Bool.or_eq_true,Bool.and_eq_true,decide_eq_true_eq,reduceCtorEq,true_iff,false_iff,iff_true,iff_false,Bool.true_eq_false,Bool.false_eq_true]);omega) (by unfold rfF;rw [Bool.eq_iff_iff];(try simp only [Bool.or_eq_true,Bool.and_eq_true,decide_eq_true_eq,reduceCtorEq,true_iff,false_iff,iff_true,iff_false,Bool.true_eq_false,Bool.false_eq_true]);omega),s.ext⟩
  try simp only [df] at h13
  refine .gF Z Z Z Z<|.gF Z Z Z Z<|.gd Z Z<|.yv (.pickF Z Z) Z<|.yv (.pickF Z Z) Z<|.m Z Z<|.yv (.eql Z Z) Z<|.m Z Z<|.b2 (fun h20 => ?_) (fun h20 => ?_)
  ·try simp only [dt] at h20
   refine .gF Z Z Z Z<|.gF Z Z Z Z<|.yv (.pickT Z Z) Z<|.m Z Z<|.gF Z Z Z Z<|.gF Z Z Z Z<|.yv (.pickT Z Z) Z<|.a Z Z<|.a Z Z<|.nt<|.rt<|?_
   refine Sx.retN (.inl rfl) rfl (.cons (.tmp rfl) (.cons (.tmp rfl) .nil)) rfl fun W s => ⟨tup2 (by unfold rfN;rw [Bool.eq_iff_iff];(try simp only [Bool.or_eq_true,Bool.and_eq_true,decide_eq_true_eq,reduceCtorEq,true_iff,false_iff,iff_true,iff_false,Bool.true_eq_false,Bool.false_eq_true]);omega) (by unfold rfF;rw [Bool.eq_iff_iff];(try simp only [Bool.or_eq_true,Bool.and_eq_true,decide_eq_true_eq,reduceCtorEq,true_iff,false_iff,iff_true,iff_false,Bool.true_eq_false,Bool.false_eq_true]);omega),s.ext⟩
  try simp only [df] at h20
  refine .gd Z Z<|.yv (.move Z) Z<|.gd Z Z<|.yv (.eql Z Z) Z<|.yv (.pickF Z Z) Z<|.m Z Z<|.b2 (fun h24 => ?_) (fun h24 => ?_)
  ·try simp only [dt] at h24
   refine .gF Z Z Z Z<|.gF Z Z Z Z<|.yv (.pickT Z Z) Z<|.a Z Z<|.a Z Z<|.nt<|.rt<|?_
   refine Sx.retN (.inl rfl) rfl (.cons (.tmp rfl) (.cons (.tmp rfl) .nil)) rfl fun W s => ⟨tup2 (by unfold rfN;rw [Bool.eq_iff_iff];(try simp only [Bool.or_eq_true,Bool.and_eq_true,decide_eq_true_eq,reduceCtorEq,true_iff,false_iff,iff_true,iff_false,Bool.true_eq_false,Bool.false_eq_true]);omega) (by unfold rfF;rw [Bool.eq_iff_iff];(try simp only [Bool.or_eq_true,Bool.and_eq_true,decide_eq_true_eq,reduceCtorEq,true_iff,false_iff,iff_true,iff_false,Bool.true_eq_false,Bool.false_eq_true]);omega),s.ext⟩
  try simp only [df] at h24
  refine .gd Z Z<|.yv (.move Z) Z<|.gd Z Z<|.yv (.eql Z Z) Z<|.yv (.pickF Z Z) Z<|.a Z Z<|.a Z Z<|.nt<|.rt<|?_
  refine Sx.retN (.inl rfl) rfl (.cons (.tmp rfl) (.cons (.tmp rfl) .nil)) rfl fun W s => ⟨tup2 (by unfold rfN;rw [Bool.eq_iff_iff];(try simp only [Bool.or_eq_true,Bool.and_eq_true,decide_eq_true_eq,reduceCtorEq,true_iff,false_iff,iff_true,iff_false,Bool.true_eq_false,Bool.false_eq_true]);omega) (by unfold rfF;rw [Bool.eq_iff_iff];(try simp only [Bool.or_eq_true,Bool.and_eq_true,decide_eq_true_eq,reduceCtorEq,true_iff,false_iff,iff_true,iff_false,Bool.true_eq_false,Bool.false_eq_true]);omega),s.ext⟩
 try simp only [df] at h6
 refine .gF Z Z Z Z<|.gF Z Z Z Z<|.yv (.pickF Z Z) Z<|.m Z Z<|.gd Z Z<|.yv (.move Z) Z<|.gd Z Z<|.yv (.geq Z Z) Z<|.gd Z Z<|.yv (.move Z) Z<|.b2 (fun h13 => ?_) (fun h13 => ?_)
 ·try simp only [dt] at h13
  refine .gd Z Z<|.yv (.move Z) Z<|.gd Z Z<|.yv (.leq Z Z) Z<|.gd Z Z<|.yv (.pickT Z Z) Z<|.yv (.pickF Z Z) Z<|.m Z Z<|.yv (.eql Z Z) Z<|.m Z Z<|.b2 (fun h20 => ?_) (fun h20 => ?_)
  ·try simp only [dt] at h20
   refine .gF Z Z Z Z<|.gF Z Z Z Z<|.yv (.pickT Z Z) Z<|.m Z Z<|.gF Z Z Z Z<|.gF Z Z Z Z<|.yv (.pickT Z Z) Z<|.a Z Z<|.a Z Z<|.nt<|.rt<|?_
   refine Sx.retN (.inl rfl) rfl (.cons (.tmp rfl) (.cons (.tmp rfl) .nil)) rfl fun W s => ⟨tup2 (by unfold rfN;rw [Bool.eq_iff_iff];(try simp only [Bool.or_eq_true,Bool.and_eq_true,decide_eq_true_eq,reduceCtorEq,true_iff,false_iff,iff_true,iff_false,Bool.true_eq_false,Bool.false_eq_true]);omega) (by unfold rfF;rw [Bool.eq_iff_iff];(try simp only [Bool.or_eq_true,Bool.and_eq_true,decide_eq_true_eq,reduceCtorEq,true_iff,false_iff,iff_true,iff_false,Bool.true_eq_false,Bool.false_eq_true]);omega),s.ext⟩
  try simp only [df] at h20
  refine .gd Z Z<|.yv (.move Z) Z<|.gd Z Z<|.yv (.eql Z Z) Z<|.yv (.pickF Z Z) Z<|.m Z Z<|.b2 (fun h24 => ?_) (fun h24 => ?_)
  ·try simp only [dt] at h24
   refine .gF Z Z Z Z<|.gF Z Z Z Z<|.yv (.pickT Z Z) Z<|.a Z Z<|.a Z Z<|.nt<|.rt<|?_
   refine Sx.retN (.inl rfl) rfl (.cons (.tmp rfl) (.cons (.tmp rfl) .nil)) rfl fun W s => ⟨tup2 (by unfold rfN;rw [Bool.eq_iff_iff];(try simp only [Bool.or_eq_true,Bool.and_eq_true,decide_eq_true_eq,reduceCtorEq,true_iff,false_iff,iff_true,iff_false,Bool.true_eq_false,Bool.false_eq_true]);omega) (by unfold rfF;rw [Bool.eq_iff_iff];(try simp only [Bool.or_eq_true,Bool.and_eq_true,decide_eq_true_eq,reduceCtorEq,true_iff,false_iff,iff_true,iff_false,Bool.true_eq_false,Bool.false_eq_true]);omega),s.ext⟩
  try simp only [df] at h24
  refine .gd Z Z<|.yv (.move Z) Z<|.gd Z Z<|.yv (.eql Z Z) Z<|.yv (.pickF Z Z) Z<|.a Z Z<|.a Z Z<|.nt<|.rt<|?_
  refine Sx.retN (.inl rfl) rfl (.cons (.tmp rfl) (.cons (.tmp rfl) .nil)) rfl fun W s => ⟨tup2 (by unfold rfN;rw [Bool.eq_iff_iff];(try simp only [Bool.or_eq_true,Bool.and_eq_true,decide_eq_true_eq,reduceCtorEq,true_iff,false_iff,iff_true,iff_false,Bool.true_eq_false,Bool.false_eq_true]);omega) (by unfold rfF;rw [Bool.eq_iff_iff];(try simp only [Bool.or_eq_true,Bool.and_eq_true,decide_eq_true_eq,reduceCtorEq,true_iff,false_iff,iff_true,iff_false,Bool.true_eq_false,Bool.false_eq_true]);omega),s.ext⟩
 try simp only [df] at h13
 refine .gF Z Z Z Z<|.gF Z Z Z Z<|.gd Z Z<|.yv (.pickF Z Z) Z<|.yv (.pickF Z Z) Z<|.m Z Z<|.yv (.eql Z Z) Z<|.m Z Z<|.b2 (fun h20 => ?_) (fun h20 => ?_)
 ·try simp only [dt] at h20
  refine .gF Z Z Z Z<|.gF Z Z Z Z<|.yv (.pickT Z Z) Z<|.m Z Z<|.gF Z Z Z Z<|.gF Z Z Z Z<|.yv (.pickT Z Z) Z<|.a Z Z<|.a Z Z<|.nt<|.rt<|?_
  refine Sx.retN (.inl rfl) rfl (.cons (.tmp rfl) (.cons (.tmp rfl) .nil)) rfl fun W s => ⟨tup2 (by unfold rfN;rw [Bool.eq_iff_iff];(try simp only [Bool.or_eq_true,Bool.and_eq_true,decide_eq_true_eq,reduceCtorEq,true_iff,false_iff,iff_true,iff_false,Bool.true_eq_false,Bool.false_eq_true]);omega) (by unfold rfF;rw [Bool.eq_iff_iff];(try simp only [Bool.or_eq_true,Bool.and_eq_true,decide_eq_true_eq,reduceCtorEq,true_iff,false_iff,iff_true,iff_false,Bool.true_eq_false,Bool.false_eq_true]);omega),s.ext⟩
 try simp only [df] at h20
 refine .gd Z Z<|.yv (.move Z) Z<|.gd Z Z<|.yv (.eql Z Z) Z<|.yv (.pickF Z Z) Z<|.m Z Z<|.b2 (fun h24 => ?_) (fun h24 => ?_)
 ·try simp only [dt] at h24
  refine .gF Z Z Z Z<|.gF Z Z Z Z<|.yv (.pickT Z Z) Z<|.a Z Z<|.a Z Z<|.nt<|.rt<|?_
  refine Sx.retN (.inl rfl) rfl (.cons (.tmp rfl) (.cons (.tmp rfl) .nil)) rfl fun W s => ⟨tup2 (by unfold rfN;rw [Bool.eq_iff_iff];(try simp only [Bool.or_eq_true,Bool.and_eq_true,decide_eq_true_eq,reduceCtorEq,true_iff,false_iff,iff_true,iff_false,Bool.true_eq_false,Bool.false_eq_true]);omega) (by unfold rfF;rw [Bool.eq_iff_iff];(try simp only [Bool.or_eq_true,Bool.and_eq_true,decide_eq_true_eq,reduceCtorEq,true_iff,false_iff,iff_true,iff_false,Bool.true_eq_false,Bool.false_eq_true]);omega),s.ext⟩
 try simp only [df] at h24
 refine .gd Z Z<|.yv (.move Z) Z<|.gd Z Z<|.yv (.eql Z Z) Z<|.yv (.pickF Z Z) Z<|.a Z Z<|.a Z Z<|.nt<|.rt<|?_
 refine Sx.retN (.inl rfl) rfl (.cons (.tmp rfl) (.cons (.tmp rfl) .nil)) rfl fun W s => ⟨tup2 (by unfold rfN;rw [Bool.eq_iff_iff];(try simp only [Bool.or_eq_true,Bool.and_eq_true,decide_eq_true_eq,reduceCtorEq,true_iff,false_iff,iff_true,iff_false,Bool.true_eq_false,Bool.false_eq_true]);omega) (by unfold rfF;rw [Bool.eq_iff_iff];(try simp only [Bool.or_eq_true,Bool.and_eq_true,decide_eq_true_eq,reduceCtorEq,true_iff,false_iff,iff_true,iff_false,Bool.true_eq_false,Bool.false_eq_true]);omega),s.ext⟩
def opI (k : Nat) : Int := if k < 1 ∨ 18 < k then -1 else if k ≤ 7 then 0 else if (9 ≤ k ∧ k ≤ 11) ∨ k = 15 then 2 else 1
theorem ret_i {a b : Int} (h : a = b) : Ending.returned (.int .i64 a) = .returned (.int .i64 b) := by rw [h]
set_option maxRecDepth 100000 in
theorem opers_any (H : Hp) (k : Nat) (w : World) (hA : Agr H w) : Calls Tryz.prog 70 #[.int .i64 (k : Nat)] w fun r w' => r = .returned (.int .i64 (opI k)) ∧ Ext w w' := by
 refine Sx.enter (H := H) Tryz.func70 rfl Tryz.ntmps70 rfl hA ?_;refine .sr<|.a Z Z<|.nt<|.sq<|.bk<|.sr<|.m Z Z<|.yv (.lss Z Z) Z<|.m Z Z<|.b2 (fun h6 => ?_) (fun h6 => ?_)
 ·try simp only [dt] at h6
  refine .gF Z Z Z Z<|.gF Z Z Z Z<|.yv (.pickT Z Z) Z<|.a Z Z<|.nt<|.cT Z<|.sr<|.a Z Z<|.nt<|.rt<|.bR<|.tR<|?_
  refine Sx.ret1 (.inl rfl) rfl (.tmp rfl) fun W s => ⟨ret_i ?_,s.ext⟩;unfold opI
  repeat' split
  all_goals omega
 try simp only [df] at h6
 refine .gd Z Z<|.yv (.move Z) Z<|.gd Z Z<|.yv (.gtr Z Z) Z<|.yv (.pickF Z Z) Z<|.a Z Z<|.nt<|.cd Z (fun h3 => ?_) (fun h3 => ?_)
 ·try simp only [dt] at h3
  refine .sr<|.a Z Z<|.nt<|.rt<|.bR<|.tR<|?_
  refine Sx.ret1 (.inl rfl) rfl (.tmp rfl) fun W s => ⟨ret_i ?_,s.ext⟩;unfold opI
  repeat' split
  all_goals omega
 try simp only [df] at h3
 refine .sr<|.m Z Z<|.yv (.leq Z Z) Z<|.a Z Z<|.nt<|.cd Z (fun h10 => ?_) (fun h10 => ?_)
 ·try simp only [dt] at h10
  refine .sr<|.a Z Z<|.nt<|.rt<|.bR<|.tR<|?_
  refine Sx.ret1 (.inl rfl) rfl (.tmp rfl) fun W s => ⟨ret_i ?_,s.ext⟩;unfold opI
  repeat' split
  all_goals omega
 try simp only [df] at h10
 refine .sr<|.m Z Z<|.yv (.geq Z Z) Z<|.m Z Z<|.b2 (fun h16 => ?_) (fun h16 => ?_)
 ·try simp only [dt] at h16
  refine .gd Z Z<|.yv (.move Z) Z<|.gd Z Z<|.yv (.leq Z Z) Z<|.yv (.pickT Z Z) Z<|.m Z Z<|.b2 (fun h20 => ?_) (fun h20 => ?_)
  ·try simp only [dt] at h20
   refine .gF Z Z Z Z<|.gF Z Z Z Z<|.yv (.pickT Z Z) Z<|.a Z Z<|.nt<|.cT Z<|.sr<|.a Z Z<|.nt<|.rt<|.bR<|.tR<|?_
   refine Sx.ret1 (.inl rfl) rfl (.tmp rfl) fun W s => ⟨ret_i ?_,s.ext⟩;unfold opI
   repeat' split
   all_goals omega
  try simp only [df] at h20
  refine .gd Z Z<|.yv (.move Z) Z<|.gd Z Z<|.yv (.eql Z Z) Z<|.yv (.pickF Z Z) Z<|.a Z Z<|.nt<|.cd Z (fun h13 => ?_) (fun h13 => ?_)
  ·try simp only [dt] at h13
   refine .sr<|.a Z Z<|.nt<|.rt<|.bR<|.tR<|?_
   refine Sx.ret1 (.inl rfl) rfl (.tmp rfl) fun W s => ⟨ret_i ?_,s.ext⟩;unfold opI
   repeat' split
   all_goals omega
  try simp only [df] at h13
  refine .sk<|.bN<|.tN<|.sr<|.a Z Z<|.nt<|.rt<|?_
  refine Sx.ret1 (.inl rfl) rfl (.tmp rfl) fun W s => ⟨ret_i ?_,s.ext⟩;unfold opI
  repeat' split
  all_goals omega
 try simp only [df] at h16
 refine .gF Z Z Z Z<|.gF Z Z Z Z<|.yv (.pickF Z Z) Z<|.m Z Z<|.gd Z Z<|.yv (.move Z) Z<|.gd Z Z<|.yv (.eql Z Z) Z<|.yv (.pickF Z Z) Z<|.a Z Z<|.nt<|.cd Z (fun h13 => ?_) (fun h13 => ?_)
 ·try simp only [dt] at h13
  refine .sr<|.a Z Z<|.nt<|.rt<|.bR<|.tR<|?_
  refine Sx.ret1 (.inl rfl) rfl (.tmp rfl) fun W s => ⟨ret_i ?_,s.ext⟩;unfold opI
  repeat' split
  all_goals omega
 try simp only [df] at h13
 refine .sk<|.bN<|.tN<|.sr<|.a Z Z<|.nt<|.rt<|?_
 refine Sx.ret1 (.inl rfl) rfl (.tmp rfl) fun W s => ⟨ret_i ?_,s.ext⟩;unfold opI
 repeat' split
 all_goals omega
theorem Fx.agg27 : aggN Tryz.prog 27 = Option.some (Option.some 7) := by kernel_rfl
theorem Fx.agg149 : aggN Tryz.prog 149 = Option.some Option.none := by kernel_rfl
theorem Fx.call82 : callN Tryz.prog 82 = Bool.true := by kernel_rfl
theorem Fx.call130 : callN Tryz.prog 130 = Bool.true := by kernel_rfl
theorem Fx.field27_0 : fieldN Tryz.prog 27 0 = Option.some 0 := by kernel_rfl
theorem Fx.field27_1 : fieldN Tryz.prog 27 1 = Option.some 1 := by kernel_rfl
theorem Fx.field27_2 : fieldN Tryz.prog 27 2 = Option.some 2 := by kernel_rfl
theorem Fx.field27_3 : fieldN Tryz.prog 27 3 = Option.some 3 := by kernel_rfl
theorem Fx.field27_4 : fieldN Tryz.prog 27 4 = Option.some 4 := by kernel_rfl
theorem Fx.field27_5 : fieldN Tryz.prog 27 5 = Option.some 5 := by kernel_rfl
theorem Fx.field151_0 : fieldN Tryz.prog 151 0 = Option.some 0 := by kernel_rfl
theorem Fx.field151_1 : fieldN Tryz.prog 151 1 = Option.some 1 := by kernel_rfl
theorem Fx.field151_2 : fieldN Tryz.prog 151 2 = Option.some 2 := by kernel_rfl
theorem Fx.field151_3 : fieldN Tryz.prog 151 3 = Option.some 3 := by kernel_rfl
theorem Fx.field151_4 : fieldN Tryz.prog 151 4 = Option.some 4 := by kernel_rfl
theorem Fx.field151_5 : fieldN Tryz.prog 151 5 = Option.some 5 := by kernel_rfl
theorem Fx.field151_6 : fieldN Tryz.prog 151 6 = Option.some 6 := by kernel_rfl
theorem Fx.field151_7 : fieldN Tryz.prog 151 7 = Option.some 7 := by kernel_rfl
theorem Fx.size27 : sizeN Tryz.prog 27 = Option.some 7 := by kernel_rfl
theorem Fx.zero27 : zeroN Tryz.prog 27 = Option.some
 [Go.Value.int Go.IntKind.i64 (Int.ofNat 0),Go.Value.string { data := { toList := [] } },
  Go.Value.string { data := { toList := [] } },Go.Value.int Go.IntKind.i64 (Int.ofNat 0),
  Go.Value.int Go.IntKind.i64 (Int.ofNat 0),Go.Value.slice Option.none 0 0,Go.Value.slice Option.none 0 0] := by kernel_rfl
theorem Fx.bld27_0 (x0 : Int) : buildN Tryz.prog 27 [(0,.int .i64 x0)] = some [.int .i64 x0,.string ⟨#[]⟩,.string ⟨#[]⟩,.int .i64 0,.int .i64 0,.slice none 0 0,.slice none 0 0] := by kernel_rfl
theorem Fx.bld83  : buildN Tryz.prog 83 [] = some [.int .i64 0,.string ⟨#[]⟩,.int .i64 0,.slice none 0 0] := by kernel_rfl
theorem cv_n {n : Nat} (h : n < 256) : IntKind.i64.wrap (n : Int) = (Int64.ofNat n).toInt := by
 rw [Int64.toInt_ofNat_of_lt (by omega)];exact w64 (by omega) (by omega)
theorem gd_1 {e : Ex} (h : goodE 1 e) : gdE e = true := by
 unfold gdE;rw [decide_eq_true (show e.depth ≤ 34 by have := h.1;omega),h.2];rfl
theorem gd_pr {e : Ex} (h : goodE 1 e) : goodE 1 (prE e) := ⟨by rw [prE_depth];exact h.1,by rw [prE_narrow];exact h.2⟩
theorem gd_2 {e : Ex} (h : goodE 1 e) : gdE e = true := gd_1 h
theorem gd_3 {op : UInt8} {n : Int64} {e : Ex} (h : goodE 1 e) : gdE (.mk op [] 0 [e,.mk 1 [] n []]) = true := by
 unfold gdE;have h1 := h.1;rw [all_mk,narrow_mk,Ex.alls,Ex.alls,Ex.alls,h.2,depth_mk,Ex.deeps,Ex.deeps,Ex.deeps,depth_mk,Ex.deeps,Bool.and_eq_true,decide_eq_true_eq];exact ⟨by omega,rfl⟩
def OneC (x : Nf) (cs : List Value) (H : Hp) : Prop := ∃ (op : UInt8) (nm fd : Str) (a b : Int64) (ex : List Ex) (p : Option Addr) (c : Nat),cs = [.int .i64 op.toNat,strV nm,strV fd,.int .i64 a.toInt,.int .i64 b.toInt,.slice p ex.length c,.slice none 0 0] ∧ Rep H (.seq 4 (ex.map (dEx .i64))) [.slice p ex.length c] ∧ op.toNat = x.op.toNat % 19 ∧ nm.length ≤ 13 ∧ fd.length ≤ 13 ∧ ex.length ≤ 4 ∧ (∀ e ∈ ex,gdE e = true) ∧ Ex.counts ex ≤ 800
set_option maxHeartbeats 2000000 in
set_option maxRecDepth 100000 in
theorem one_any (H : Hp) (x : Nf) (cs : List Value) (h : Rep H (dNf x) cs) (w : World) (hA : Agr H w) :
 Calls Tryz.prog 69 #[.agg cs.toArray] w fun r w' => ∃ (y : List Value) (H' : Hp),OneC x y H' ∧ r = .returned (.agg y.toArray) ∧ Grow H w H' w' := by
 obtain ⟨p,c,rfl,hts⟩ := nf_open h;have hcap := hts.cap;obtain ⟨op,hop⟩ : ∃ op : UInt8,op.toNat = x.op.toNat % 19 := ⟨UInt8.ofNat (x.op.toNat % 19),by simp [UInt8.toNat_ofNat'];omega⟩;have hct := x.ct.toNat_lt;have hfdl := x.fd.toNat_lt;refine Sx.enter (H := H) Tryz.func69 rfl Tryz.ntmps69 rfl hA ?_;refine .sr<|.bx Z Z Z fun b1 => .al Fx.zero27 Z fun b2 => .ns<|.yv (.fieldAddr Z Fx.field151_0) Z<|.yv (.load Z Fx.agg5 (.tail _<|.head _) Z) Z<|.yv (.rem Z Z (by decide) (c := ((x.op.toNat % 19 : Nat) : Int)) (by rw [Int.tmod_eq_emod_of_nonneg (by omega)];omega)) Z<|.yv (.conv Z Fx.int5 Fx.int3 (c := ((op.toNat : Nat) : Int)) ((w6 (by omega)).trans (by rw [hop]))) Z<|.yv (.build Z (Fx.bld27_0 _)) Z<|.al Fx.zero27 Z fun b3 => .sW .head Z Z Fx.size27 (by simp [Value.oneCell',strV]) Z<|.ns<|.yv (.fieldAddr Z Fx.field27_0) Z<|.yv (.load Z Fx.agg3 (.head _) Z) Z<|.yv (.call Fx.call82 Z (fun W s => fields_any H op.toNat W s.agr)) Z<|.m Z Z<|.yv (.extract Z Z) Z<|.yv (.extract Z Z) Z<|.a Z Z<|.a Z Z<|.nt<|.cu (X := Str) [(1,_),(2,_),(3,_),(5,_)] ⟨rfl,rfl,rfl,rfl,trivial⟩ (fun nm => []) (fun nm => H) (fun nm => [.box b3 [.int .i64 op.toNat,strV nm,strV [],.int .i64 ((0 : Int64)).toInt,.int .i64 ((0 : Int64)).toInt,.slice none 0 0,.slice none 0 0] 27,.box b2 [.int .i64 0,.string ⟨#[]⟩,.string ⟨#[]⟩,.int .i64 0,.int .i64 0,.slice none 0 0,.slice none 0 0] 27,.box b1 [.int .u8 x.op.toNat,.int .u8 x.nm.toNat,.int .u8 x.fd.toNat,.int .u8 x.ct.toNat,.bool x.odd,.int .i64 x.a.toInt,.int .i64 x.b.toInt,.slice p x.ts.length c] 151]) (fun nm => nm.length ≤ 13) ?_ fun nm hC => ?_
 ·
  refine .sr<|.m Z Z<|.nt<|.cd Z (fun h19 => ?_) (fun h19 => ?_)
  ·skip
   exact .rg<|.yv (.fieldAddr Z Fx.field151_1) Z<|.yv (.load Z Fx.agg5 (.tail _<|.tail _<|.head _) Z) Z<|.yv (.call Fx.call128 Z (fun W s => word_any _ x.nm W s.agr)) Z<|.yv (.fieldAddr Z Fx.field27_1) Z<|.st .head Z Z Fx.size9 Z (nb Z) Z<|.nt<|.me (wordR x.nm) trivial ⟨rfl,rfl,rfl,rfl,trivial⟩ (fun _ s => s) (word_len _)
  skip
  exact .sk<|.tN<|.me [] trivial ⟨rfl,rfl,rfl,rfl,trivial⟩ (fun _ s => s) (by decide)
 have hnm := hC;refine .cu (X := Str) [(1,_),(2,_),(3,_)] ⟨rfl,rfl,rfl,trivial⟩ (fun fd => []) (fun fd => H) (fun fd => [.box b3 [.int .i64 op.toNat,strV nm,strV fd,.int .i64 ((0 : Int64)).toInt,.int .i64 ((0 : Int64)).toInt,.slice none 0 0,.slice none 0 0] 27,.box b2 [.int .i64 0,.string ⟨#[]⟩,.string ⟨#[]⟩,.int .i64 0,.int .i64 0,.slice none 0 0,.slice none 0 0] 27,.box b1 [.int .u8 x.op.toNat,.int .u8 x.nm.toNat,.int .u8 x.fd.toNat,.int .u8 x.ct.toNat,.bool x.odd,.int .i64 x.a.toInt,.int .i64 x.b.toInt,.slice p x.ts.length c] 151]) (fun fd => fd.length ≤ 13) ?_ fun fd hC => ?_
 ·
  refine .sr<|.m Z Z<|.nt<|.cd Z (fun h24 => ?_) (fun h24 => ?_)
  ·skip
   exact .rg<|.yv (.fieldAddr Z Fx.field151_2) Z<|.yv (.load Z Fx.agg5 (.tail _<|.tail _<|.head _) Z) Z<|.yv (.call Fx.call128 Z (fun W s => word_any _ x.fd W s.agr)) Z<|.yv (.fieldAddr Z Fx.field27_2) Z<|.st .head Z Z Fx.size9 Z (nb Z) Z<|.nt<|.me (wordR x.fd) trivial ⟨rfl,rfl,rfl,trivial⟩ (fun _ s => s) (word_len _)
  skip
  exact .sk<|.tN<|.me [] trivial ⟨rfl,rfl,rfl,trivial⟩ (fun _ s => s) (by decide)
 have hfd := hC;refine .cu (X := Int64 × Int64) [(1,_),(2,_),(3,_)] ⟨rfl,rfl,rfl,trivial⟩ (fun ab => []) (fun ab => H) (fun ab => [.box b3 [.int .i64 op.toNat,strV nm,strV fd,.int .i64 ((ab.1 : Int64)).toInt,.int .i64 ((ab.2 : Int64)).toInt,.slice none 0 0,.slice none 0 0] 27,.box b2 [.int .i64 0,.string ⟨#[]⟩,.string ⟨#[]⟩,.int .i64 0,.int .i64 0,.slice none 0 0,.slice none 0 0] 27,.box b1 [.int .u8 x.op.toNat,.int .u8 x.nm.toNat,.int .u8 x.fd.toNat,.int .u8 x.ct.toNat,.bool x.odd,.int .i64 x.a.toInt,.int .i64 x.b.toInt,.slice p x.ts.length c] 151]) (fun ab => True) ?_ fun ab hC => ?_
 ·
  refine .sr<|.yv (.fieldAddr Z Fx.field27_0) Z<|.yv (.load Z Fx.agg3 (.head _) Z) Z<|.yv (.geq Z Z) Z<|.m Z Z<|.b2 (fun h32 => ?_) (fun h32 => ?_)
  ·try simp only [dt] at h32
   refine .gd Z Z<|.yv (.fieldAddr Z Fx.field27_0) Z<|.gd Z Z<|.yv (.load Z Fx.agg3 (.head _) Z) Z<|.gd Z Z<|.yv (.neq Z Z) Z<|.yv (.pickT Z Z) Z<|.nt<|.cd Z (fun h36 => ?_) (fun h36 => ?_)
   ·try simp only [dt] at h36
    exact .fl (trip := [(_,_,_),(_,_,_),(_,_,_),(_,_,_),(_,_,_),(_,_,_),(_,_,_)]) 7 [(0,0),(1,0),(2,0),(3,0),(4,0),(5,3),(6,0)] (by kernel_rfl) (by kernel_rfl) Z<|.yv (.fieldAddr Z Fx.field151_5) Z<|.yv (.load Z Fx.agg3 (.tail _<|.tail _<|.head _) Z) Z<|.yv (.fieldAddr Z Fx.field151_6) Z<|.yv (.load Z Fx.agg3 (.tail _<|.tail _<|.head _) Z) Z<|.yv (.fieldAddr Z Fx.field27_3) Z<|.st .head Z Z Fx.size3 Z Z Z ((.done (by kernel_rfl)<|.yv (.load Z Fx.agg3 (.tail _<|.tail _<|.head _) Z)<|.yv (.fieldAddr Z Fx.field151_6)<|.done (by kernel_rfl)<|.done (by kernel_rfl)<|.nl))<|.yv (.fieldAddr Z Fx.field27_4) Z<|.fn (tl := [_]) Z<|.st .head Z Z Fx.size3 Z (nb Z) Z<|.nt<|.me (x.a,x.b) trivial ⟨rfl,rfl,rfl,trivial⟩ (fun _ s => s) trivial
   try simp only [df] at h36
   exact .sk<|.tN<|.me (0,0) trivial ⟨rfl,rfl,rfl,trivial⟩ (fun _ s => s) trivial
  try simp only [df] at h32
  exact .gF Z Z Z Z<|.gF Z Z Z Z<|.gF Z Z Z Z<|.yv (.pickF Z Z) Z<|.nt<|.cF Z<|.sk<|.tN<|.me (0,0) trivial ⟨rfl,rfl,rfl,trivial⟩ (fun _ s => s) trivial
 obtain ⟨a,b⟩ := ab;dsimp only;refine .sr<|.yv (.fieldAddr Z Fx.field151_7) Z<|.yv (.load Z Fx.agg149 (.tail _<|.tail _<|.head _) Z) Z<|.ct (X := List Value) Fx.call130 Z (fun W s => buildX_any H x.ts _ hts W s.agr) Z fun x1 H1 hx1 u1 => ?_
 obtain ⟨e0,rx,hg0,h13,hcn⟩ := hx1;obtain ⟨op1,nm1,n1,args1,rfl⟩ := ex_is e0;obtain ⟨p1,c1,rfl,hs1,_⟩ := ex_open rx;refine .ct (X := List Value) Fx.call129 Z (fun W s => pairs_any _ h13 hg0.2 H1 _ W rx s.agr) Z fun x2 H2 hx2 u2 => ?_;have hg2 := gd_pr hg0;have hcn2 := prE_count (.mk op1 nm1 n1 args1);obtain ⟨op2,nm2,n2,args2,hx⟩ := ex_is (prE (.mk op1 nm1 n1 args1));rw [hx] at hx2 hg2 hcn2;obtain ⟨p2,c2,rfl,hs2,hnm2⟩ := ex_open hx2;refine .al Fx.zero83 Z fun b6 => .sW .head Z Z Fx.size83 (by simp [Value.oneCell',strV]) Z<|.nt<|.cu (X := Hp × Value × List Ex × List Value) [(1,_),(2,_),(3,_)] ⟨rfl,rfl,rfl,trivial⟩ (fun z => []) (fun z => z.1) (fun z => [.row 83 4 z.2.1 z.2.2.1.length z.2.2.2,.box b3 [.int .i64 op.toNat,strV nm,strV fd,.int .i64 ((a : Int64)).toInt,.int .i64 ((b : Int64)).toInt,z.2.1,.slice none 0 0] 27,.box b2 [.int .i64 0,.string ⟨#[]⟩,.string ⟨#[]⟩,.int .i64 0,.int .i64 0,.slice none 0 0,.slice none 0 0] 27,.box b1 [.int .u8 x.op.toNat,.int .u8 x.nm.toNat,.int .u8 x.fd.toNat,.int .u8 x.ct.toNat,.bool x.odd,.int .i64 x.a.toInt,.int .i64 x.b.toInt,.slice p x.ts.length c] 151]) (fun z => HUp w H z.1 ∧ RepZ z.1 4 (z.2.2.1.map (dEx .i64)) z.2.2.2 ∧ z.2.2.1.length ≤ 3 ∧ (∀ e ∈ z.2.2.1,gdE e = true) ∧ Ex.counts z.2.2.1 ≤ 600) ?_ fun z hC => ?_
 ·
  refine .sq<|?_
  refine Sx.row0 83 4 ?_;refine .rg<|.yv (.fieldAddr Z Fx.field27_0) Z<|.yv (.load Z Fx.agg3 (.tail _<|.tail _<|.head _) Z) Z<|.nt<|.bk<|.sr<|.yv (.eql Z Z) Z<|.a Z Z<|.nt<|.cd Z (fun h49 => ?_) (fun h49 => ?_)
  ·try simp only [dt] at h49
   refine .rg<|.yv (.fieldAddr Z Fx.field151_3) Z<|.yv (.load Z Fx.agg5 (.tail _<|.tail _<|.tail _<|.tail _<|.head _) Z) Z<|.yv (.rem Z Z (by decide) (c := ((x.ct.toNat % 6 : Nat) : Int)) (by rw [Int.tmod_eq_emod_of_nonneg (by omega)];omega)) Z<|.yv (.conv Z Fx.int5 Fx.int3 (c := ((x.ct.toNat % 6 : Nat) : Int)) (w6 (by omega))) Z<|.yv (.add Z Z (c := (((UInt8.ofNat (16 + x.ct.toNat % 6)).toNat : Nat) : Int)) (by rw [UInt8.toNat_ofNat_of_lt' (by show 16 + x.ct.toNat % 6 < 256;omega)];exact (w6 (by omega)).trans (by omega))) Z<|.yv (.loadW Z Fx.agg83 (.tail _<|.head _) Z) Z<|.yv (.fieldAddr Z Fx.field151_2) Z<|.yv (.load Z Fx.agg5 (.tail _<|.tail _<|.tail _<|.tail _<|.head _) Z) Z<|.yv (.conv Z Fx.int5 Fx.int2 (c := (Int64.ofNat (x.fd.toNat)).toInt) (cv_n (by omega))) Z<|.yv (.build Z (Fx.bld83_0_2 _ _)) Z<|.bl Z (Fx.bsl24_2 _ _ _ _ _ _ _ _) Z fun b61 => ?_
   refine Sx.freezeBoxN fun H3 u3 m3 => ?_;exact .yv (.build Z (Fx.bld83_0_3 _ _ _ _)) Z<|.blR (z := 4) Z (Fx.bsl24_1 _ _ _ _) Z Z (by simp [maxLen]) fun b63 => .yv (.fieldAddr Z Fx.field27_5) Z<|.st (.tail<|.tail<|.tail<|.head) Z Z Fx.size24 Z (nb Z) Z<|.nl<|.bN<|.tN<|.me (H3,.slice (some ⟨b63,0,none⟩) 1 1,[(Ex.mk (UInt8.ofNat (16 + x.ct.toNat % 6)) [] 0 [(Ex.mk op2 nm2 n2 args2),.mk 1 [] (Int64.ofNat x.fd.toNat) []])],[.int .i64 (UInt8.ofNat (16 + x.ct.toNat % 6)).toNat,.string ⟨#[]⟩,.int .i64 0,.slice (some ⟨b61,0,none⟩) 2 2]) trivial ⟨rfl,rfl,rfl,trivial⟩ (fun _ s => s.pick [0,3,4,5] [_,_,_,_] Z Z) ⟨(u1.trans u2).trans u3,RepZ.single (ex_shut (by decide) (Rep.mk (n := 2) (c := 2) (ds := [dEx .i64 (Ex.mk op2 nm2 n2 args2),dEx .i64 (.mk 1 [] (Int64.ofNat x.fd.toNat) [])]) m3 (RepZ.app (RepZ.single (ex_shut hnm2 (hs2.up u3.up)) Z) (RepZ.single (ex_shut (by decide) (Rep.empty (by decide))) Z)) Z (Nat.le_refl _) (by decide))) Z,(by decide : 1 ≤ 3),fun e he => by rw [List.mem_singleton.1 he];exact gd_3 hg2,by dsimp only;simp only [Ex.counts,ex_count] at hcn2 hcn ⊢;omega⟩
  try simp only [df] at h49
  refine .sr<|.yv (.eql Z Z) Z<|.a Z Z<|.nt<|.cd Z (fun h65 => ?_) (fun h65 => ?_)
  ·try simp only [dt] at h65
   exact .rg<|.yv (.loadW Z Fx.agg83 (.tail _<|.head _) Z) Z<|.blR (z := 4) Z (Fx.bsl24_1 _ _ _ _) Z Z (by simp [maxLen]) fun b68 => .yv (.fieldAddr Z Fx.field27_5) Z<|.st (.tail<|.tail<|.tail<|.head) Z Z Fx.size24 Z (nb Z) Z<|.nl<|.bN<|.tN<|.me (H2,.slice (some ⟨b68,0,none⟩) 1 1,[(Ex.mk op2 nm2 n2 args2)],[.int .i64 op2.toNat,strV nm2,.int .i64 n2.toInt,.slice p2 args2.length c2]) trivial ⟨rfl,rfl,rfl,trivial⟩ (fun _ s => s.pick [0,3,4,5] [_,_,_,_] Z Z) ⟨u1.trans u2,RepZ.single (ex_shut hnm2 hs2) Z,(by decide : 1 ≤ 3),fun e he => by rw [List.mem_singleton.1 he];exact gd_2 hg2,by dsimp only;simp only [Ex.counts];omega⟩
  try simp only [df] at h65
  refine .sr<|.yv (.eql Z Z) Z<|.a Z Z<|.nt<|.cd Z (fun h70 => ?_) (fun h70 => ?_)
  ·try simp only [dt] at h70
   refine .sr<|.a Z Z<|.nt<|.bk<|.pm [1,0,2,3,4] [_,_,_,_,_] Z Z<|.lp (X := Nat × Value × List Ex × List Value × Ex × Option Addr × Nat) [(1,_),(2,_),(3,_),(6,_)] ⟨rfl,rfl,rfl,rfl,trivial⟩ [_,_] (fun z => [(7,.int .i64 (z.1 : Nat))]) (fun z => H2) (fun z => [.box b6 [.int .i64 (z.2.2.2.2.1.op).toNat,strV z.2.2.2.2.1.nm,.int .i64 (z.2.2.2.2.1.n).toInt,.slice z.2.2.2.2.2.1 z.2.2.2.2.1.args.length z.2.2.2.2.2.2] 83,.row 83 4 z.2.1 z.1 z.2.2.2.1,.box b3 [.int .i64 op.toNat,strV nm,strV fd,.int .i64 ((a : Int64)).toInt,.int .i64 ((b : Int64)).toInt,z.2.1,.slice none 0 0] 27]) (fun z => (z.1 ≤ x.ct.toNat % 4 ∧ z.2.2.1.length = z.1) ∧ RepZ H2 4 (z.2.2.1.map (dEx .i64)) z.2.2.2.1 ∧ (∀ e ∈ z.2.2.1,gdE e = true) ∧ Ex.counts z.2.2.1 ≤ 181 * z.1 ∧ Rep H2 (dEx .i64 z.2.2.2.2.1) [.int .i64 (z.2.2.2.2.1.op).toNat,strV z.2.2.2.2.1.nm,.int .i64 (z.2.2.2.2.1.n).toInt,.slice z.2.2.2.2.2.1 z.2.2.2.2.1.args.length z.2.2.2.2.2.2] ∧ gdE z.2.2.2.2.1 = true ∧ z.2.2.2.2.1.count ≤ 181) (fun z => x.ct.toNat % 4 - z.1) (0,.slice none 0 0,[],[],(Ex.mk op2 nm2 n2 args2),p2,c2) (fun _ s => s) ⟨rfl,trivial⟩ ⟨⟨Nat.zero_le _,rfl⟩,RepZ.nil,fun e he => (by cases he),by rw [Ex.counts];exact Nat.zero_le _,hx2,gd_2 hg2,by dsimp only;omega⟩ fun z hC => ?_
   obtain ⟨k,r,ex,xs,te,tp,tc⟩ := z;obtain ⟨⟨hk0,hkl⟩,hz,hge,hxc,rt,gt,ct⟩ := hC;dsimp only at hk0 hkl hz hge hxc rt gt ct ⊢;obtain ⟨top,tnm,tn,targs,rfl⟩ := ex_is te;dsimp only [Ex.op,Ex.nm,Ex.n,Ex.args] at rt ⊢;refine .sq<|.sr<|.m Z Z<|.yv (.fieldAddr Z Fx.field151_3) Z<|.yv (.load Z Fx.agg5 (.tail _<|.tail _<|.tail _<|.tail _<|.head _) Z) Z<|.yv (.rem Z Z (by decide) (c := ((x.ct.toNat % 4 : Nat) : Int)) (by rw [Int.tmod_eq_emod_of_nonneg (by omega)];omega)) Z<|.yv (.conv Z Fx.int5 Fx.int3 (c := ((x.ct.toNat % 4 : Nat) : Int)) (w6 (by omega))) Z<|.yv (.lss Z Z) Z<|.nt<|.cd Z (fun h77 => ?_) (fun h77 => ?_)
   ·try simp only [dt] at h77
    have hk : k < x.ct.toNat % 4 := by omega
    refine .sk<|.tN<|.sq<|.bk<|.sr<|.yv (.fieldAddr Z Fx.field27_5) Z<|.yv (.load Z Fx.agg24 (.tail _<|.tail _<|.head _) Z) Z<|.yv (.loadW Z Fx.agg83 (.head _) Z) Z<|.bl Z (Fx.bsl24_1 _ _ _ _) Z fun b83 => .ap (news := [.int .i64 top.toNat,strV tnm,.int .i64 tn.toInt,.slice tp targs.length tc]) Fx.row24 Z (fun _ => (.tail<|.tail<|.head)) Z (.box (.head _) z0) Z (by simp [Value.oneCell',strV]) (by simp [maxLen];omega) (by omega) Z fun r84 _ => ?_
    refine At.ra (.tail _<|.tail _<|.head _) fun p84 c84 e84 => ?_;subst e84;exact .yv (.fieldAddr Z Fx.field27_5) Z<|.st (.tail<|.tail<|.tail<|.head) Z Z Fx.size24 Z (nb Z) Z<|.nt<|.rg<|.yv (.build Z Fx.bld83) Z<|.sW (.tail<|.head) Z Z Fx.size83 (by simp [Value.oneCell',strV]) Z<|.nl<|.bN<|.tN<|.rg<|.m Z Z<|.yv (.add Z Z (w6 (by omega))) Z<|.a Z Z<|.nt<|.ag (x := (k,r,ex,xs,.mk top tnm tn targs,tp,tc)) (k + 1,.slice p84 (k + 1) c84,ex ++ [Ex.mk top tnm tn targs],xs ++ [.int .i64 top.toNat,strV tnm,.int .i64 tn.toInt,.slice tp targs.length tc],Ex.mk 0 [] 0 [],none,0) ⟨rfl,trivial⟩ ⟨rfl,rfl,rfl,rfl,trivial⟩ (fun _ s => (s.pick [1,2,3,4,5] _ Z Z)) ⟨⟨by dsimp only;omega,by dsimp only;rw [List.length_append];simp only [List.length_cons,List.length_nil];omega⟩,by dsimp only;rw [List.map_append];exact hz.snoc rt Z,fun e he => by rcases List.mem_append.1 he with h | h;exact hge e h;rw [List.mem_singleton.1 h];exact gt,by dsimp only;rw [ex_counts_app,Ex.counts,Ex.counts];omega,ex_shut (by decide) (Rep.empty (Nat.zero_le _)),rfl,by dsimp only;simp only [Ex.counts,ex_count];omega⟩ (by dsimp only;omega)
   try simp only [df] at h77
   have hke : k = x.ct.toNat % 4 := by omega
   subst hkl;refine At.ra (.tail _ (.head _)) fun p84 c84 e84 => ?_;subst e84;have hkl3 : ex.length ≤ 3 := by omega
   exact .ex<|.tE<|.tE<|.bE<|.bN<|.tN<|.me (H2,.slice p84 ex.length c84,ex,xs) trivial ⟨rfl,rfl,rfl,trivial⟩ (fun _ s => s.pick [1,2,3,4] [_,_,_,_] Z Z) ⟨u1.trans u2,hz,hkl3,hge,(show Ex.counts ex ≤ 600 by omega)⟩
  try simp only [df] at h70
  refine .sr<|.yv (.eql Z Z) Z<|.a Z Z<|.nt<|.cd Z (fun h87 => ?_) (fun h87 => ?_)
  ·try simp only [dt] at h87
   exact .rg<|.yv (.fieldAddr Z Fx.field151_3) Z<|.yv (.load Z Fx.agg5 (.tail _<|.tail _<|.tail _<|.tail _<|.head _) Z) Z<|.yv (.rem Z Z (by decide) (c := ((x.ct.toNat % 40 : Nat) : Int)) (by rw [Int.tmod_eq_emod_of_nonneg (by omega)];omega)) Z<|.yv (.conv Z Fx.int5 Fx.int2 (c := (Int64.ofNat (x.ct.toNat % 40)).toInt) (cv_n (by omega))) Z<|.yv (.build Z (Fx.bld83_0_2 _ _)) Z<|.blR (z := 4) Z (Fx.bsl24_1 _ _ _ _) Z Z (by simp [maxLen]) fun b94 => .yv (.fieldAddr Z Fx.field27_5) Z<|.st (.tail<|.tail<|.tail<|.head) Z Z Fx.size24 Z (nb Z) Z<|.nl<|.bN<|.tN<|.me (H2,.slice (some ⟨b94,0,none⟩) 1 1,[(Ex.mk 1 [] (Int64.ofNat (x.ct.toNat % 40)) [])],[.int .i64 1,.string ⟨#[]⟩,.int .i64 (Int64.ofNat (x.ct.toNat % 40)).toInt,.slice none 0 0]) trivial ⟨rfl,rfl,rfl,trivial⟩ (fun _ s => s.pick [0,3,4,5] [_,_,_,_] Z Z) ⟨u1.trans u2,RepZ.single (ex_shut (by decide) (Rep.empty (by decide))) Z,(by decide : 1 ≤ 3),fun e he => by rw [List.mem_singleton.1 he];rfl,by dsimp only;simp only [Ex.counts,ex_count];omega⟩
  try simp only [df] at h87
  exact .sk<|.bN<|.tN<|.me (H2,.slice none 0 0,[],[]) trivial ⟨rfl,rfl,rfl,trivial⟩ (fun _ s => s.pick [0,2,3,4] [_,_,_,_] Z Z) ⟨u1.trans u2,RepZ.nil,Nat.zero_le _,fun e he => (by cases he),by rw [Ex.counts];omega⟩
 obtain ⟨H3,r,ex,xs⟩ := z;obtain ⟨u3,hz,hxl,hge,hxc⟩ := hC;dsimp only at u3 hz hxl hge hxc ⊢;refine At.ra (.head _) fun pr cr er => ?_;subst er;have hts3 := hts.up u3.up;refine .cu (X := Str × Str × Int64 × Int64 × Hp × Value × List Ex × List Value) [(2,_),(3,_)] ⟨rfl,rfl,trivial⟩ (fun z => []) (fun z => z.2.2.2.2.1) (fun z => [.row 83 4 z.2.2.2.2.2.1 z.2.2.2.2.2.2.1.length z.2.2.2.2.2.2.2,.box b3 [.int .i64 op.toNat,strV z.1,strV z.2.1,.int .i64 ((z.2.2.1 : Int64)).toInt,.int .i64 ((z.2.2.2.1 : Int64)).toInt,z.2.2.2.2.2.1,.slice none 0 0] 27,.box b2 [.int .i64 0,.string ⟨#[]⟩,.string ⟨#[]⟩,.int .i64 0,.int .i64 0,.slice none 0 0,.slice none 0 0] 27,.box b1 [.int .u8 x.op.toNat,.int .u8 x.nm.toNat,.int .u8 x.fd.toNat,.int .u8 x.ct.toNat,.bool x.odd,.int .i64 x.a.toInt,.int .i64 x.b.toInt,.slice p x.ts.length c] 151]) (fun z => (z.1.length ≤ 13 ∧ z.2.1.length ≤ 13) ∧ HUp w H z.2.2.2.2.1 ∧ RepZ z.2.2.2.2.1 4 (z.2.2.2.2.2.2.1.map (dEx .i64)) z.2.2.2.2.2.2.2 ∧ z.2.2.2.2.2.2.1.length ≤ 4 ∧ (∀ e ∈ z.2.2.2.2.2.2.1,gdE e = true) ∧ Ex.counts z.2.2.2.2.2.2.1 ≤ 800) ?_ fun z hC => ?_
 ·
  refine .sr<|.yv (.fieldAddr Z Fx.field151_4) Z<|.yv (.load Z Fx.agg4 (.tail _<|.tail _<|.tail _<|.head _) Z) Z<|.nt<|.cd Z (fun h97 => ?_) (fun h97 => ?_)
  ·try simp only [dt] at h97
   refine .sr<|.yv (.fieldAddr Z Fx.field151_3) Z<|.yv (.load Z Fx.agg5 (.tail _<|.tail _<|.tail _<|.head _) Z) Z<|.yv (.rem Z Z (by decide) (c := ((x.ct.toNat % 6 : Nat) : Int)) (by rw [Int.tmod_eq_emod_of_nonneg (by omega)];omega)) Z<|.nt<|.bk<|.sr<|.yv (.eql Z Z) Z<|.a Z Z<|.nt<|.cd Z (fun h101 => ?_) (fun h101 => ?_)
   ·try simp only [dt] at h101
    exact .rg<|.yv (.fieldAddr Z Fx.field151_1) Z<|.yv (.load Z Fx.agg5 (.tail _<|.tail _<|.tail _<|.head _) Z) Z<|.yv (.call Fx.call128 Z (fun W s => word_any _ x.nm W s.agr)) Z<|.yv (.fieldAddr Z Fx.field27_1) Z<|.st (.tail<|.head) Z Z Fx.size9 Z (nb Z) Z<|.nl<|.bN<|.tN<|.me ((wordR x.nm),fd,a,b,H3,.slice pr ex.length cr,ex,xs) trivial ⟨rfl,rfl,trivial⟩ (fun _ s => s) ⟨⟨by first | exact hnm | exact word_len _,by first | exact hfd | exact word_len _⟩,u3,hz,(show ex.length ≤ 4 by omega),hge,(show Ex.counts ex ≤ 800 by omega)⟩
   try simp only [df] at h101
   refine .sr<|.yv (.eql Z Z) Z<|.a Z Z<|.nt<|.cd Z (fun h107 => ?_) (fun h107 => ?_)
   ·try simp only [dt] at h107
    exact .rg<|.yv (.fieldAddr Z Fx.field151_2) Z<|.yv (.load Z Fx.agg5 (.tail _<|.tail _<|.tail _<|.head _) Z) Z<|.yv (.call Fx.call128 Z (fun W s => word_any _ x.fd W s.agr)) Z<|.yv (.fieldAddr Z Fx.field27_2) Z<|.st (.tail<|.head) Z Z Fx.size9 Z (nb Z) Z<|.nl<|.bN<|.tN<|.me (nm,(wordR x.fd),a,b,H3,.slice pr ex.length cr,ex,xs) trivial ⟨rfl,rfl,trivial⟩ (fun _ s => s) ⟨⟨by first | exact hnm | exact word_len _,by first | exact hfd | exact word_len _⟩,u3,hz,(show ex.length ≤ 4 by omega),hge,(show Ex.counts ex ≤ 800 by omega)⟩
   try simp only [df] at h107
   refine .sr<|.yv (.eql Z Z) Z<|.a Z Z<|.nt<|.cd Z (fun h113 => ?_) (fun h113 => ?_)
   ·try simp only [dt] at h113
    refine .fl (trip := [(_,_,_),(_,_,_),(_,_,_),(_,_,_),(_,_,_),(_,_,_)]) 6 [(0,0),(1,0),(2,0),(3,0),(4,1),(5,1)] (by kernel_rfl) (by kernel_rfl) Z<|.yv (.fieldAddr Z Fx.field27_5) Z<|.yv (.load Z Fx.agg24 (.tail _<|.head _) Z) Z<|.yv (.fieldAddr Z Fx.field151_7) Z<|.yv (.load Z Fx.agg149 (.tail _<|.tail _<|.tail _<|.head _) Z) Z<|.ct (X := List Value) Fx.call130 Z (fun W s => buildX_any H3 x.ts _ hts3 W s.agr) Z fun x9 H4 hx9 u4 => ?_
    obtain ⟨e9,rx9,hg9,_,hcn9⟩ := hx9;obtain ⟨op9,nm9,n9,args9,rfl⟩ := ex_is e9;obtain ⟨p9,c9,rfl,hs9,_⟩ := ex_open rx9;refine .bl Z (Fx.bsl24_1 _ _ _ _) Z fun b120 => .fn (tl := [_,_,_]) Z<|.ap (news := [.int .i64 op9.toNat,strV nm9,.int .i64 n9.toInt,.slice p9 args9.length c9]) Fx.row24 Z (fun _ => (.tail<|.head)) Z (.box (.head _) z0) Z (by simp [Value.oneCell',strV]) (by simp [maxLen];omega) (by omega) Z fun r121 _ => ?_
    rw [show ex.length + 1 = (ex ++ [Ex.mk op9 nm9 n9 args9]).length by simp];refine At.ra (.tail _<|.head _) fun p121 c121 e121 => ?_;subst e121;exact .yv (.fieldAddr Z Fx.field27_5) Z<|.st (.tail<|.tail<|.head) Z Z Fx.size24 Z (nb Z) Z<|.nl<|.bN<|.tN<|.me (nm,fd,a,b,H4,.slice p121 (ex ++ [Ex.mk op9 nm9 n9 args9]).length c121,ex ++ [Ex.mk op9 nm9 n9 args9],xs ++ [.int .i64 op9.toNat,strV nm9,.int .i64 n9.toInt,.slice p9 args9.length c9]) trivial ⟨rfl,rfl,trivial⟩ (fun _ s => s.pick [1,2,3,4] [_,_,_,_] Z Z) ⟨⟨hnm,hfd⟩,u3.trans u4,by dsimp only;rw [List.map_append];exact (hz.up u4.up).snoc rx9 Z,by dsimp only;rw [List.length_append];simp only [List.length_cons,List.length_nil];omega,fun e he => by rcases List.mem_append.1 he with h | h;exact hge e h;rw [List.mem_singleton.1 h];exact gd_1 hg9,by dsimp only;rw [ex_counts_app,Ex.counts,Ex.counts];omega⟩
   try simp only [df] at h113
   refine .sr<|.yv (.eql Z Z) Z<|.a Z Z<|.nt<|.cd Z (fun h123 => ?_) (fun h123 => ?_)
   ·try simp only [dt] at h123
    exact .rg<|.yv (.fieldAddr Z Fx.field151_5) Z<|.yv (.load Z Fx.agg3 (.tail _<|.tail _<|.tail _<|.head _) Z) Z<|.yv (.fieldAddr Z Fx.field27_3) Z<|.st (.tail<|.head) Z Z Fx.size3 Z (nb Z) Z<|.nl<|.bN<|.tN<|.me (nm,fd,x.a,b,H3,.slice pr ex.length cr,ex,xs) trivial ⟨rfl,rfl,trivial⟩ (fun _ s => s) ⟨⟨by first | exact hnm | exact word_len _,by first | exact hfd | exact word_len _⟩,u3,hz,(show ex.length ≤ 4 by omega),hge,(show Ex.counts ex ≤ 800 by omega)⟩
   try simp only [df] at h123
   refine .sr<|.yv (.eql Z Z) Z<|.a Z Z<|.nt<|.cd Z (fun h128 => ?_) (fun h128 => ?_)
   ·try simp only [dt] at h128
    exact .rg<|.yv (.fieldAddr Z Fx.field151_6) Z<|.yv (.load Z Fx.agg3 (.tail _<|.tail _<|.tail _<|.head _) Z) Z<|.yv (.fieldAddr Z Fx.field27_4) Z<|.st (.tail<|.head) Z Z Fx.size3 Z (nb Z) Z<|.nl<|.bN<|.tN<|.me (nm,fd,a,x.b,H3,.slice pr ex.length cr,ex,xs) trivial ⟨rfl,rfl,trivial⟩ (fun _ s => s) ⟨⟨by first | exact hnm | exact word_len _,by first | exact hfd | exact word_len _⟩,u3,hz,(show ex.length ≤ 4 by omega),hge,(show Ex.counts ex ≤ 800 by omega)⟩
   try simp only [df] at h128
   exact .sk<|.bN<|.tN<|.me (nm,fd,a,b,H3,.slice pr ex.length cr,ex,xs) trivial ⟨rfl,rfl,trivial⟩ (fun _ s => s) ⟨⟨by first | exact hnm | exact word_len _,by first | exact hfd | exact word_len _⟩,u3,hz,(show ex.length ≤ 4 by omega),hge,(show Ex.counts ex ≤ 800 by omega)⟩
  try simp only [df] at h97
  exact .sk<|.tN<|.me (nm,fd,a,b,H3,.slice pr ex.length cr,ex,xs) trivial ⟨rfl,rfl,trivial⟩ (fun _ s => s) ⟨⟨by first | exact hnm | exact word_len _,by first | exact hfd | exact word_len _⟩,u3,hz,(show ex.length ≤ 4 by omega),hge,(show Ex.counts ex ≤ 800 by omega)⟩
 obtain ⟨nm,fd,a,b,H5,r,ex,xs⟩ := z;obtain ⟨⟨hnm,hfd⟩,u5,hz,hxl,hge,hxc⟩ := hC;dsimp only at hnm hfd u5 hz hxl hge hxc ⊢;refine At.ra (.head _) fun p5 c5 e5 => ?_;subst e5;refine .sr<|.yv (.loadW Z Fx.agg27 (.tail _<|.head _) Z) Z<|.sW (.tail<|.tail<|.head) Z Z Fx.size27 (by simp [Value.oneCell',strV]) Z<|.nt<|.rt<|?_
 refine At.pm [0,2] [_,_] rfl rfl ?_;refine Sx.freezeSeq (ds := ex.map (dEx .i64)) (List.length_map ..) hz fun H6 p6 c6 u6 hr6 hs6 => ?_;refine Sx.ret1 (.inl rfl) rfl (.cell rfl Fx.agg27 (.head _) rfl) fun W s => ⟨_,H6,⟨op,nm,fd,a,b,ex,p5,c5,rfl,hs6,hop,hnm,hfd,hxl,hge,hxc⟩,rfl,(u5.trans u6).grow s⟩
theorem Fx.agg25 : aggN Tryz.prog 25 = Option.some Option.none := by kernel_rfl
theorem Fx.agg151 : aggN Tryz.prog 151 = Option.some (Option.some 8) := by kernel_rfl
theorem Fx.call33 : callN Tryz.prog 33 = Bool.true := by kernel_rfl
theorem Fx.call69 : callN Tryz.prog 69 = Bool.true := by kernel_rfl
theorem Fx.call70 : callN Tryz.prog 70 = Bool.true := by kernel_rfl
theorem Fx.field27_6 : fieldN Tryz.prog 27 6 = Option.some 6 := by kernel_rfl
theorem Fx.row25 : rowN Tryz.prog 25 = Option.some (27,7,104) := by kernel_rfl
theorem Fx.size25 : sizeN Tryz.prog 25 = Option.some 1 := by kernel_rfl
theorem Fx.size151 : sizeN Tryz.prog 151 = Option.some 8 := by kernel_rfl
theorem Fx.sl22 : slN Tryz.prog 22 = Option.some 8 := by kernel_rfl
theorem Fx.zero151 : zeroN Tryz.prog 151 = Option.some
 [Go.Value.int Go.IntKind.u8 (Int.ofNat 0),Go.Value.int Go.IntKind.u8 (Int.ofNat 0),
  Go.Value.int Go.IntKind.u8 (Int.ofNat 0),Go.Value.int Go.IntKind.u8 (Int.ofNat 0),Go.Value.bool Bool.false,
  Go.Value.int Go.IntKind.i64 (Int.ofNat 0),Go.Value.int Go.IntKind.i64 (Int.ofNat 0),
  Go.Value.slice Option.none 0 0] := by kernel_rfl
theorem Fx.bsl25_1 (x00 x01 x02 x03 x04 x05 x06 : Value) : bslN Tryz.prog 25 1 [(0,.agg [x00,x01,x02,x03,x04,x05,x06].toArray)] = some (27,[x00,x01,x02,x03,x04,x05,x06]) := by kernel_rfl
theorem u8wN {n : Nat} (h : n < 256) : IntKind.u8.wrap (n : Int) = (n : Int) := by
 have key : ∀ i ∈ List.range 256,IntKind.u8.wrap (i : Int) = (i : Int) := by decide +kernel
 exact key n (List.mem_range.2 h)
theorem opI_bnd (k : Nat) : -1 ≤ opI k ∧ opI k ≤ 2 := by unfold opI;split <;> (try split) <;> (try split) <;> omega
set_option maxRecDepth 100000 in
theorem build34_any : ∀ (f d : Nat),d + f = 13 → ∀ (H : Hp) (l : List Nf) (v : Value) (w : World),Rep H (.seq 8 (l.map dNf)) [v] → Agr H w →
 Calls Tryz.prog 33 #[v,.int .i64 (d : Nat)] w fun r w' => ∃ (y : List Value × Value) (H' : Hp),(∃ (g : Fm) (rest : List Nf),Rep H' (dFm .i64 g) y.1 ∧ gdF g = true ∧ g.count + 1010 * rest.length ≤ 1010 * l.length + 1 ∧ Rep H' (.seq 8 (rest.map dNf)) [y.2]) ∧ r = .returned (.tuple #[.agg y.1.toArray,y.2]) ∧ Grow H w H' w' := by
 intro f;induction f using Nat.strongRecOn with
 | _ f ih =>
  intro d hd H l v w h hA;obtain ⟨p,c,e,_⟩ := h.sl;simp only [List.cons.injEq,and_true] at e;subst e;obtain ⟨n,hn⟩ : ∃ n,n = (l.map dNf).length := ⟨_,rfl⟩;rw [← hn] at h ⊢;have hnl : n = l.length := by simpa using hn
  have hcap := h.cap;refine Sx.enter (H := H) Tryz.func33 rfl Tryz.ntmps33 rfl hA ?_;refine .sr<|.al Fx.zero27 Z fun b4 => .a Z Z<|.nt<|.sq<|.sr<|.m Z Z<|.yv (.lenSl Fx.sl22 Z) Z<|.yv (.eql Z Z) Z<|.m Z Z<|.b2 (fun h15 => ?_) (fun h15 => ?_)
  ·try simp only [dt] at h15
   refine .gF Z Z Z Z<|.gF Z Z Z Z<|.yv (.pickT Z Z) Z<|.nt<|.cT Z<|.sr<|.yv (.build Z (Fx.bld27_0 _)) Z<|.m Z Z<|.sW .head Z Z Fx.size27 (by simp [Value.oneCell',strV,cNf]) Z<|.a Z Z<|.nt<|.rt<|.tR<|?_
   exact Sx.retN (.inl rfl) rfl (.cons (.cell rfl Fx.agg27 (.head _) rfl) (.cons (.tmp rfl) .nil)) rfl fun W s => ⟨(_,_),H,⟨.mk 1 [] [] 0 0 [] [],l,fm_shut (k := .i64) (by decide) (by decide) (Rep.empty (by decide)) (Rep.empty (by decide)),rfl,(by simp only [Fm.count,Ex.counts,Fm.counts];omega),h⟩,rfl,.pure hA s.ext⟩
  try simp only [df] at h15
  refine .gd Z Z<|.yv (.move Z) Z<|.gd Z Z<|.yv (.gtr Z Z) Z<|.yv (.pickF Z Z) Z<|.nt<|.cd Z (fun h18 => ?_) (fun h18 => ?_)
  ·try simp only [dt] at h18
   refine .sr<|.yv (.build Z (Fx.bld27_0 _)) Z<|.m Z Z<|.sW .head Z Z Fx.size27 (by simp [Value.oneCell',strV,cNf]) Z<|.a Z Z<|.nt<|.rt<|.tR<|?_
   exact Sx.retN (.inl rfl) rfl (.cons (.cell rfl Fx.agg27 (.head _) rfl) (.cons (.tmp rfl) .nil)) rfl fun W s => ⟨(_,_),H,⟨.mk 1 [] [] 0 0 [] [],l,fm_shut (k := .i64) (by decide) (by decide) (Rep.empty (by decide)) (Rep.empty (by decide)),rfl,(by simp only [Fm.count,Ex.counts,Fm.counts];omega),h⟩,rfl,.pure hA s.ext⟩
  try simp only [df] at h18
  have hn0 : 0 < n := by omega
  obtain ⟨bE,oE,cE,hpE,rE,lE,mE⟩ := h.elem (map_at (f := dNf) (show 0 < l.length by omega));subst hpE;generalize hx : l[0] = x at rE;obtain ⟨pN,cN,rfl,hsN⟩ := nf_open rE;have hct := x.ct.toNat_lt;refine .sk<|.tN<|.sr<|.m Z Z<|.yv (.indexSl Fx.sl22 Z Z (i := 0) Z (by omega) (q := oE + 0 * 8) (by omega)) Z<|.yv (.loadMW Z Fx.agg151 mE Z) Z<|.al Fx.zero151 Z fun b6 => .sW .head Z Z Fx.size151 (by simp [Value.oneCell',strV,cNf]) Z<|.ns<|.m Z Z<|.yv (.cutLo Fx.sl22 Z Z (lo := 1) Z (by omega) h.len.2.1) Z<|.a Z Z<|.ns<|.yv (.loadW Z Fx.agg151 (.head _) Z) Z<|.ct (X := List Value) Fx.call69 Z (fun W s => one_any H x _ rE W s.agr) Z fun y27 H0 hy27 u0 => ?_
  obtain ⟨op,nm,fd,a,b,ex,pX,cX,rfl,hsX,hop,hnm,hfd,hexl,hge,hexc⟩ := hy27;obtain ⟨m0,hm0,hm2⟩ : ∃ m0 : Nat,max (opI op.toNat) 0 = (m0 : Int) ∧ m0 ≤ 2 := ⟨(max (opI op.toNat) 0).toNat,by have := opI_bnd op.toNat;omega,by have := opI_bnd op.toNat;omega⟩;refine .al Fx.zero27 Z fun b7 => .sW .head Z Z Fx.size27 (by simp [Value.oneCell',strV,cNf]) Z<|.ns<|.yv (.fieldAddr Z Fx.field27_0) Z<|.yv (.load Z Fx.agg3 (.head _) Z) Z<|.yv (.call Fx.call70 Z (fun W s => opers_any _ op.toNat W s.agr)) Z<|.yv (.max2 Z Z (c := ((m0 : Nat) : Int)) hm0) Z<|.a Z Z<|.nt<|.cu (X := Nat) [(0,_),(1,_),(4,_),(7,_)] ⟨rfl,rfl,rfl,rfl,trivial⟩ (fun m => [(8,.int .i64 (m : Nat))]) (fun m => H0) (fun m => [.box b7 [.int .i64 op.toNat,strV nm,strV fd,.int .i64 a.toInt,.int .i64 b.toInt,.slice pX ex.length cX,.slice none 0 0] 27,.box b6 [.int .u8 x.op.toNat,.int .u8 x.nm.toNat,.int .u8 x.fd.toNat,.int .u8 x.ct.toNat,.bool x.odd,.int .i64 x.a.toInt,.int .i64 x.b.toInt,.slice pN x.ts.length cN] 151,.box b4 [.int .i64 0,.string ⟨#[]⟩,.string ⟨#[]⟩,.int .i64 0,.int .i64 0,.slice none 0 0,.slice none 0 0] 27]) (fun m => m ≤ 3) ?_ fun m hC => ?_
  ·
   refine .sr<|.yv (.fieldAddr Z Fx.field151_4) Z<|.yv (.load Z Fx.agg4 (.tail _<|.head _) Z) Z<|.m Z Z<|.b2 (fun h34 => ?_) (fun h34 => ?_)
   ·try simp only [dt] at h34
    refine .gd Z Z<|.yv (.fieldAddr Z Fx.field151_3) Z<|.gd Z Z<|.yv (.load Z Fx.agg5 (.tail _<|.head _) Z) Z<|.gd Z Z<|.yv (.rem Z Z (by decide) (c := ((x.ct.toNat % 6 : Nat) : Int)) (by rw [Int.tmod_eq_emod_of_nonneg (by omega)];omega)) Z<|.gd Z Z<|.yv (.eql Z Z) Z<|.yv (.pickT Z Z) Z<|.nt<|.cd Z (fun h39 => ?_) (fun h39 => ?_)
    ·try simp only [dt] at h39
     exact .rg<|.yv (.fieldAddr Z Fx.field151_3) Z<|.yv (.load Z Fx.agg5 (.tail _<|.head _) Z) Z<|.yv (.quo Z Z (by decide) (c := ((x.ct.toNat / 6 : Nat) : Int)) (by rw [Int.tdiv_eq_ediv_of_nonneg (by omega),show ((x.ct.toNat : Nat) : Int) / 6 = ((x.ct.toNat / 6 : Nat) : Int) by omega];exact u8wN (by omega))) Z<|.yv (.conv Z Fx.int5 Fx.int3 (c := ((x.ct.toNat / 6 : Nat) : Int)) (w6 (by omega))) Z<|.yv (.rem Z Z (by decide) (c := ((x.ct.toNat / 6 % 4 : Nat) : Int)) (by rw [Int.tmod_eq_emod_of_nonneg (by omega)];omega)) Z<|.a Z Z<|.nt<|.me (x.ct.toNat / 6 % 4) ⟨rfl,trivial⟩ ⟨rfl,rfl,rfl,rfl,trivial⟩ (fun _ s => s) (by omega)
    try simp only [df] at h39
    exact .sk<|.tN<|.me m0 ⟨rfl,trivial⟩ ⟨rfl,rfl,rfl,rfl,trivial⟩ (fun _ s => s) (by omega)
   try simp only [df] at h34
   exact .gF Z Z Z Z<|.gF Z Z Z Z<|.gF Z Z Z Z<|.gF Z Z Z Z<|.yv (.pickF Z Z) Z<|.nt<|.cF Z<|.sk<|.tN<|.me m0 ⟨rfl,trivial⟩ ⟨rfl,rfl,rfl,rfl,trivial⟩ (fun _ s => s) (by omega)
  have hm3 := hC;refine Sx.row0 27 7 ?_;refine .sq<|.sr<|.a Z Z<|.nt<|.bk<|.lp (X := Nat × Hp × Value × List Value × Value) [(1,_),(4,_),(7,_),(8,_)] ⟨rfl,rfl,rfl,rfl,trivial⟩ [_,_] (fun z => [(9,.int .i64 (z.1 : Nat)),(0,z.2.2.2.2)]) (fun z => z.2.1) (fun z => [.row 27 7 z.2.2.1 z.1 z.2.2.2.1,.box b7 [.int .i64 op.toNat,strV nm,strV fd,.int .i64 a.toInt,.int .i64 b.toInt,.slice pX ex.length cX,z.2.2.1] 27]) (fun z => z.1 ≤ m ∧ HUp w H0 z.2.1 ∧ ∃ (gs : List Fm) (rest : List Nf),gs.length = z.1 ∧ RepZ z.2.1 7 (gs.map (dFm .i64)) z.2.2.2.1 ∧ (∀ g ∈ gs,gdF g = true) ∧ Fm.counts gs + 1010 * rest.length + 1010 ≤ 1010 * l.length + gs.length ∧ Rep z.2.1 (.seq 8 (rest.map dNf)) [z.2.2.2.2]) (fun z => m - z.1) (0,H0,.slice none 0 0,[],_) (fun _ s => s) ⟨rfl,rfl,trivial⟩ ⟨by simp,.refl,[],l.drop 1,rfl,RepZ.nil,(fun g hg => by cases hg),(by rw [Fm.counts,List.length_drop,List.length_nil];omega),(by have h5 := rep_drop h (lo := 1) (by omega);rw [← List.map_drop] at h5;exact h5.up u0.up)⟩ fun z hC => ?_
  obtain ⟨k,H1,r,xs,rv⟩ := z;dsimp only at hC ⊢;obtain ⟨hk0,u1,gs,rest,hlen,hz,hgs,hcn,hrs⟩ := hC;refine .sq<|.sr<|.m Z Z<|.m Z Z<|.yv (.lss Z Z) Z<|.nt<|.cd Z (fun h47 => ?_) (fun h47 => ?_)
  ·try simp only [dt] at h47
   have hk : k < m := by omega
   refine .sk<|.tN<|.sq<|.bk<|.sr<|.m Z Z<|.m Z Z<|.yv (.add Z Z (w6 (by omega))) Z<|.ct (X := List Value × Value) Fx.call33 Z (fun W s => ih (f - 1) (by omega) (d + 1) (by omega) H1 _ _ W hrs s.agr) Z fun y2 H2 hc2 u2 => ?_
   obtain ⟨x2,y2⟩ := y2;obtain ⟨g2,rest2,hc2,hg2,hcn2,hrs2⟩ := hc2;dsimp only at hc2 hrs2 ⊢;obtain ⟨op2,nm2,fd2,a2,b2,ex2,as2⟩ := g2;obtain ⟨p2,c2,q2,d2,rfl,_,_,_,_⟩ := fm_open hc2;refine .m Z Z<|.yv (.extract Z Z) Z<|.yv (.extract Z Z) Z<|.al Fx.zero27 Z fun b10 => .sW .head Z Z Fx.size27 (by simp [Value.oneCell',strV,cNf]) Z<|.a Z Z<|.nt<|.rg<|.yv (.fieldAddr Z Fx.field27_6) Z<|.yv (.load Z Fx.agg25 (.tail _<|.tail _<|.head _) Z) Z<|.yv (.loadW Z Fx.agg27 (.head _) Z) Z<|.bl Z (Fx.bsl25_1 _ _ _ _ _ _ _) Z fun b60 => .ap (news := [.int .i64 op2.toNat,strV nm2,strV fd2,.int .i64 a2.toInt,.int .i64 b2.toInt,.slice p2 ex2.length c2,.slice q2 as2.length d2]) Fx.row25 Z (fun _ => (.tail<|.tail<|.head)) Z (.box (.head _) z0) Z (by simp [Value.oneCell',strV]) (by simp [maxLen];omega) (by omega) Z fun r61 _ => ?_
   refine At.ra (by first | exact .tail _ (.tail _ (.head _)) | exact .tail _ (.tail _ (.tail _ (.head _)))) fun p61 c61 e61 => ?_;exact .m Z Z<|.yv (.fieldAddr Z Fx.field27_6) Z<|.st (.tail<|.tail<|.tail<|.head) Z Z Fx.size25 (by rw [e61];rfl) (nb Z) Z<|.a Z Z<|.nl<|.bN<|.tN<|.rg<|.m Z Z<|.yv (.add Z Z (w6 (by omega))) Z<|.a Z Z<|.nt<|.ag (x := (k,H1,r,xs,rv)) (k + 1,H2,r61,xs ++ [.int .i64 op2.toNat,strV nm2,strV fd2,.int .i64 a2.toInt,.int .i64 b2.toInt,.slice p2 ex2.length c2,.slice q2 as2.length d2],y2) ⟨rfl,rfl,trivial⟩ ⟨rfl,rfl,rfl,rfl,trivial⟩ (fun _ s => (s.pick [2,3,4,5] _ Z Z)) ⟨by dsimp only;omega,u1.trans u2,gs ++ [.mk op2 nm2 fd2 a2 b2 ex2 as2],rest2,by simp;omega,by rw [List.map_append];exact (hz.up u2.up).snoc hc2 Z,(fun g hg => by rcases List.mem_append.1 hg with h | h;exact hgs g h;rw [List.mem_singleton.1 h];exact hg2),(by rw [fm_counts_app,Fm.counts,Fm.counts,List.length_append];simp only [List.length_cons,List.length_nil];omega),hrs2⟩ (by dsimp only;omega)
  try simp only [df] at h47
  obtain rfl : k = m := by omega
  refine At.ra (.head _) fun p61 c61 e61 => ?_;subst e61;refine .ex<|.tE<|.tE<|.bE<|.tN<|.sr<|.yv (.loadW Z Fx.agg27 (.tail _<|.head _) Z) Z<|.m Z Z<|.sW (.tail<|.tail<|.tail<|.head) Z Z Fx.size27 (by simp [Value.oneCell',strV,cNf]) Z<|.a Z Z<|.nt<|.rt<|?_
  refine At.pm [0,3] [_,_] rfl rfl ?_;refine Sx.freezeSeq (ds := gs.map (dFm .i64)) (by simp;omega) hz fun H3 p3 c3 u3 hr3 hs3 => ?_;refine Sx.retN (.inl rfl) rfl (.cons (.cell rfl Fx.agg27 (.head _) rfl) (.cons (.tmp rfl) .nil)) rfl fun W s => ⟨(_,_),H3,⟨.mk op nm fd a b ex gs,rest,fm_shut (k := .i64) (by omega) (by omega) ((hsX.up u1.up).up u3.up) hs3,?_,?_,hrs.up u3.up⟩,rfl,((u0.trans u1).trans u3).grow s⟩
  ·exact gdF_mk.2 ⟨⟨by omega,hexl,by omega,hge⟩,hgs⟩
  ·rw [fm_count];omega
def BuiltF (x : List Value) (H' : Hp) : Prop := ∃ g : Fm,Rep H' (dFm .i64 g) x ∧ gdF g = true ∧ g.count ≤ 40000
set_option maxRecDepth 100000 in
theorem buildF34_any (H : Hp) (l : List Nf) (v : Value) (h0 : Rep H (.seq 8 (l.map dNf)) [v]) (w : World) (hA : Agr H w) :
 Calls Tryz.prog 14 #[v] w fun r w' => ∃ (x : List Value) (H' : Hp),BuiltF x H' ∧ r = .returned (.agg x.toArray) ∧ Grow H w H' w' := by
 obtain ⟨p,c,e,_⟩ := h0.sl;simp only [List.cons.injEq,and_true,List.length_map] at e;subst e;have h := h0;have hcap := h.cap;refine Sx.enter (H := H) Tryz.func14 rfl Tryz.ntmps14 rfl hA ?_;refine .sr<|.al Fx.zero27 Z fun b2 => .ns<|.m Z Z<|.m Z Z<|.yv (.lenSl Fx.sl22 Z) Z<|.yv (.min2 Z Z (c := ((min l.length 30 : Nat) : Int)) (by omega)) Z<|.yv (.cutHi2 Fx.sl22 Z Z (h := min l.length 30) Z (by have := h.len.2.1;omega)) Z<|.ct (X := List Value × Value) Fx.call33 Z (fun W s => build34_any 12 1 Z H (l.take (min l.length 30)) _ W (by rw [List.map_take];exact rep_take2 h (by omega)) s.agr) Z fun y H1 hc u1 => ?_
 obtain ⟨x,y⟩ := y;obtain ⟨e,rest,hx,hg,hcn,_⟩ := hc;dsimp only at hx;rw [List.length_take] at hcn;refine .m Z Z<|.yv (.extract Z Z) Z<|.yv (.extract Z Z) Z<|.al Fx.zero27 Z fun b3 => .sV .head Z Z Fx.size27 (fm_len hx) hx.one Z<|.a Z Z<|.ns<|.yv (.loadW Z Fx.agg27 (.head _) (fm_len hx)) Z<|.sV (.tail<|.head) Z Z Fx.size27 (fm_len hx) hx.one Z<|.nt<|.rt<|?_
 exact Sx.ret1 (.inl rfl) rfl (.cell rfl Fx.agg27 (.tail _<|.head _) (fm_len hx)) fun W t => ⟨x,H1,⟨e,hx,hg,by omega⟩,rfl,u1.grow t⟩
theorem Fx.call16 : callN Tryz.prog 16 = Bool.true := by kernel_rfl
theorem Fx.sl25 : slN Tryz.prog 25 = Option.some 7 := by kernel_rfl
theorem Fx.bld35_0_1_2_3_4 (x0 : Int) (x1 : ByteArray) (x2 : ByteArray) (x3 : Int) (x4 : Int) : buildN Tryz.prog 35 [(0,.int .u8 x0),(1,.string x1),(2,.string x2),(3,.int .i64 x3),(4,.int .i64 x4)] = some [.int .u8 x0,.string x1,.string x2,.int .i64 x3,.int .i64 x4,.slice none 0 0,.slice none 0 0] := by kernel_rfl
theorem gdE_nar {e : Ex} (h : gdE e = true) : Ex.all narrow e = true := by
 unfold gdE at h;rw [Bool.and_eq_true] at h;exact h.2
theorem takeF_snoc {l : List Fm} {k : Nat} (h : k < l.length) : l.take (k + 1) = l.take k ++ [l[k]] := by rw [List.take_succ,List.getElem?_eq_getElem h];rfl
theorem fm_is (f : Fm) : ∃ o n d a b e r,f = .mk o n d a b e r := by
 obtain ⟨o,n,d,a,b,e,r⟩ := f;exact ⟨o,n,d,a,b,e,r,rfl⟩
def FormOf (g : Fm) : Prop := gdF g = true → ∀ (H : Hp) (cs : List Value) (w : World),Rep H (dFm .i64 g) cs → Agr H w →
 Calls Tryz.prog 16 #[.agg cs.toArray] w fun r w' => ∃ x H',Rep H' (dFm .u8 g) x ∧ r = .returned (.agg x.toArray) ∧ Grow H w H' w'
set_option maxHeartbeats 1000000 in
set_option maxRecDepth 100000 in
theorem form_any (g : Fm) : FormOf g := by
 induction g using Fm.ind with | _ op nm fd a b ex args ih
 intro hgd H cs w h hA;obtain ⟨⟨hop,hexl,hal,hge⟩,hga⟩ := gdF_mk.1 hgd;obtain ⟨p1,c1,p2,c2,rfl,hs1,hs2,hnm,hfd⟩ := fm_open h;have hcap1 := hs1.cap;have hcap2 := hs2.cap;refine Sx.enter (H := H) Tryz.func16 rfl Tryz.ntmps16 rfl hA ?_;refine .sr<|.bx Z Z Z fun b1 => .al Fx.zero35 Z fun b2 => .ns<|.yv (.fieldAddr Z Fx.field27_0) Z<|.yv (.load Z Fx.agg3 (.tail _<|.head _) Z) Z<|.yv (.conv Z Fx.int3 Fx.int74 (c := (op.toNat : Nat)) (by have := op.toNat_lt;simp only [IntKind.wrap,IntKind.signed,IntKind.bits];simp;omega)) Z<|.yv (.fieldAddr Z Fx.field27_1) Z<|.yv (.load Z Fx.agg9 (.tail _<|.head _) Z) Z<|.yv (.fieldAddr Z Fx.field27_2) Z<|.yv (.load Z Fx.agg9 (.tail _<|.head _) Z) Z<|.yv (.fieldAddr Z Fx.field27_3) Z<|.yv (.load Z Fx.agg3 (.tail _<|.head _) Z) Z<|.yv (.fieldAddr Z Fx.field27_4) Z<|.yv (.load Z Fx.agg3 (.tail _<|.head _) Z) Z<|.yv (.build Z (Fx.bld35_0_1_2_3_4 _ _ _ _ _)) Z<|.al Fx.zero35 Z fun b3 => .sW .head Z Z Fx.size35 (by simp [Value.oneCell',strV]) Z<|.nt<|.sq<|.sq<|?_
 refine Sx.row0 76 4 ?_;refine .rg<|.yv (.fieldAddr Z Fx.field27_5) Z<|.yv (.load Z Fx.agg24 (.tail _<|.tail _<|.tail _<|.head _) Z) Z<|.yv (.lenSl Fx.sl24 Z) Z<|.m Z Z<|.nt<|.bk<|.pm [1,0,2,3] [_,_,_,_] Z Z<|.lp (X := Nat × Hp × Value × List Value) [(1,_),(2,_),(3,_),(21,_),(22,_)] ⟨rfl,rfl,rfl,rfl,rfl,trivial⟩ [_,_] (fun z => [(23,.int .i64 (z.1 : Nat))]) (fun z => z.2.1) (fun z => [.box b3 [.int .u8 op.toNat,strV nm,strV fd,.int .i64 a.toInt,.int .i64 b.toInt,z.2.2.1,.slice none 0 0] 35,.row 76 4 z.2.2.1 z.1 z.2.2.2]) (fun z => z.1 ≤ ex.length ∧ HUp w H z.2.1 ∧ RepZ z.2.1 4 ((ex.take z.1).map (dEx .u8)) z.2.2.2) (fun z => ex.length - z.1) (0,H,.slice none 0 0,[]) (fun _ s => s) ⟨rfl,trivial⟩ ⟨by simp,.refl,RepZ.nil⟩ fun z hC => ?_
 obtain ⟨k,H1,r,xs⟩ := z;dsimp only at hC ⊢;obtain ⟨hk0,u1,hz⟩ := hC;refine .sr<|.yv (.lss Z Z) Z<|.nt<|.sq<|.cd Z (fun h24 => ?_) (fun h24 => ?_)
 ·try simp only [dt] at h24
  have hk : k < ex.length := by omega
  obtain ⟨bE,oE,cE,hpE,rE,lE,mE⟩ := (hs1.up u1.up).elem (map_at (f := dEx .i64) hk);cases hpE;have hnr := gdE_nar (hge _ (List.getElem_mem hk));refine .sk<|.tN<|.sq<|.bk<|.sr<|.yv (.indexSl Fx.sl24 Z Z Z (by omega) (q := oE + k * 4) Z) Z<|.yv (.loadMW Z Fx.agg83 mE lE) Z<|.al Fx.zero83 Z fun b5 => .sV .head Z Z Fx.size83 lE rE.one Z<|.nt<|.fl (trip := [(_,_,_),(_,_,_),(_,_,_),(_,_,_),(_,_,_)]) 5 [(0,0),(1,0),(2,0),(3,1),(4,1)] (by kernel_rfl) (by kernel_rfl) Z<|.yv (.fieldAddr Z Fx.field35_5) Z<|.yv (.load Z Fx.agg32 (.tail _<|.head _) Z) Z<|.yv (.loadW Z Fx.agg83 (.head _) lE) Z<|.ct (X := List Value) Fx.call39 Z (fun W s => expr_any _ hnr H1 cE W rE s.agr) Z fun x2 H2 hc2 u2 => ?_
  obtain ⟨op2,nm2,n2,args2,hx⟩ := ex_is (ex[k]);rw [hx] at hc2;obtain ⟨p2,c2,rfl,hs2,hnm2⟩ := ex_open hc2;refine .bl Z (Fx.bsl32_1 _ _ _ _) Z fun b31 => .fn (tl := [_,_,_]) Z<|.ap (news := [.int .u8 op2.toNat,strV nm2,.int .i64 n2.toInt,.slice p2 args2.length c2]) Fx.row32 Z (fun _ => (.tail<|.tail<|.tail<|.head)) Z (.box (.head _) z0) Z (by simp [Value.oneCell',strV]) (by simp [maxLen];omega) (by omega) Z fun r32 _ => ?_
  refine At.ra (.tail _<|.tail _<|.tail _<|.head _) fun p32 c32 e32 => ?_;exact .yv (.fieldAddr Z Fx.field35_5) Z<|.st (.tail<|.tail<|.head) Z Z Fx.size32 (by rw [e32];rfl) (nb Z) Z<|.nl<|.bN<|.tN<|.rg<|.yv (.add Z Z (w6 (by omega))) Z<|.m Z Z<|.nt<|.ag (x := (k,H1,r,xs)) (k + 1,H2,r32,xs ++ [.int .u8 op2.toNat,strV nm2,.int .i64 n2.toInt,.slice p2 args2.length c2]) ⟨rfl,trivial⟩ ⟨rfl,rfl,rfl,rfl,rfl,trivial⟩ (fun _ s => (s.pick [2,3,4,5] _ Z Z)) ⟨by dsimp only;omega,u1.trans u2,by dsimp only;rw [take_snoc hk,List.map_append,hx];exact (hz.up u2.up).snoc hc2 Z⟩ (by dsimp only;omega)
 try simp only [df] at h24
 obtain rfl : k = ex.length := by omega
 rw [List.take_length] at hz;refine At.ra (.tail _ (.head _)) fun p32 c32 e32 => ?_;subst e32;obtain ⟨HX,hHX⟩ : ∃ h,h = H1 := ⟨_,rfl⟩;rw [← hHX] at u1 hz ⊢;have uX := u1;have hzX := hz;clear u1 hz hHX;refine .ex<|.tE<|.tE<|.bE<|.tN<|.sq<|.sq<|?_
 refine Sx.row0 35 7 ?_;refine .rg<|.yv (.fieldAddr Z Fx.field27_6) Z<|.yv (.load Z Fx.agg25 (.tail _<|.tail _<|.tail _<|.tail _<|.head _) Z) Z<|.yv (.lenSl Fx.sl25 Z) Z<|.m Z Z<|.nt<|.bk<|.pm [1,0,2,3,4] [_,_,_,_,_] Z Z<|.lp (X := Nat × Hp × Value × List Value) [(2,_),(3,_),(36,_),(37,_)] ⟨rfl,rfl,rfl,rfl,trivial⟩ [_,_,_] (fun z => [(38,.int .i64 (z.1 : Nat))]) (fun z => z.2.1) (fun z => [.box b3 [.int .u8 op.toNat,strV nm,strV fd,.int .i64 a.toInt,.int .i64 b.toInt,.slice p32 ex.length c32,z.2.2.1] 35,.row 35 7 z.2.2.1 z.1 z.2.2.2]) (fun z => z.1 ≤ args.length ∧ HUp w HX z.2.1 ∧ RepZ z.2.1 7 ((args.take z.1).map (dFm .u8)) z.2.2.2) (fun z => args.length - z.1) (0,HX,.slice none 0 0,[]) (fun _ s => s) ⟨rfl,trivial⟩ ⟨by simp,.refl,RepZ.nil⟩ fun z hC => ?_
 obtain ⟨k,H1,r,xs2⟩ := z;dsimp only at hC ⊢;obtain ⟨hk0,u1,hz⟩ := hC;refine .sr<|.yv (.lss Z Z) Z<|.nt<|.sq<|.cd Z (fun h39 => ?_) (fun h39 => ?_)
 ·try simp only [dt] at h39
  have hk : k < args.length := by omega
  obtain ⟨bE,oE,cE,hpE,rE,lE,mE⟩ := ((hs2.up uX.up).up u1.up).elem (map_at (f := dFm .i64) hk);cases hpE;refine .sk<|.tN<|.sq<|.bk<|.sr<|.yv (.indexSl Fx.sl25 Z Z Z (by omega) (q := oE + k * 7) Z) Z<|.yv (.loadMW Z Fx.agg27 mE lE) Z<|.al Fx.zero27 Z fun b7 => .sV .head Z Z Fx.size27 lE rE.one Z<|.nt<|.fl (trip := [(_,_,_),(_,_,_),(_,_,_),(_,_,_),(_,_,_)]) 5 [(0,0),(1,0),(2,0),(3,1),(4,1)] (by kernel_rfl) (by kernel_rfl) Z<|.yv (.fieldAddr Z Fx.field35_6) Z<|.yv (.load Z Fx.agg33 (.tail _<|.head _) Z) Z<|.yv (.loadW Z Fx.agg27 (.head _) lE) Z<|.ct (X := List Value) Fx.call16 Z (fun W s => ih _ (List.getElem_mem hk) (hga _ (List.getElem_mem hk)) H1 cE W rE s.agr) Z fun x2 H2 hc2 u2 => ?_
  obtain ⟨op2,nm2,fd2,a2,b2x,ex2,as2,hx⟩ := fm_is (args[k]);rw [hx] at hc2;obtain ⟨p2,c2,q2,d2,rfl,_,_,_,_⟩ := fm_open hc2;refine .bl Z (Fx.bsl33_1 _ _ _ _ _ _ _) Z fun b46 => .fn (tl := [_,_,_]) Z<|.ap (news := [.int .u8 op2.toNat,strV nm2,strV fd2,.int .i64 a2.toInt,.int .i64 b2x.toInt,.slice p2 ex2.length c2,.slice q2 as2.length d2]) Fx.row33 Z (fun _ => (.tail<|.tail<|.tail<|.head)) Z (.box (.head _) z0) Z (by simp [Value.oneCell',strV]) (by simp [maxLen];omega) (by omega) Z fun r47 _ => ?_
  refine At.ra (.tail _<|.tail _<|.tail _<|.head _) fun p47 c47 e47 => ?_;exact .yv (.fieldAddr Z Fx.field35_6) Z<|.st (.tail<|.tail<|.head) Z Z Fx.size33 (by rw [e47];rfl) (nb Z) Z<|.nl<|.bN<|.tN<|.rg<|.yv (.add Z Z (w6 (by omega))) Z<|.m Z Z<|.nt<|.ag (x := (k,H1,r,xs2)) (k + 1,H2,r47,xs2 ++ [.int .u8 op2.toNat,strV nm2,strV fd2,.int .i64 a2.toInt,.int .i64 b2x.toInt,.slice p2 ex2.length c2,.slice q2 as2.length d2]) ⟨rfl,trivial⟩ ⟨rfl,rfl,rfl,rfl,trivial⟩ (fun _ s => (s.pick [2,3,4,5,6] _ Z Z)) ⟨by dsimp only;omega,u1.trans u2,by dsimp only;rw [takeF_snoc hk,List.map_append,hx];exact (hz.up u2.up).snoc hc2 Z⟩ (by dsimp only;omega)
 try simp only [df] at h39
 obtain rfl : k = args.length := by omega
 rw [List.take_length] at hz;refine At.ra (.tail _ (.head _)) fun p47 c47 e47 => ?_;subst e47;refine .ex<|.tE<|.tE<|.bE<|.tN<|.sr<|.yv (.loadW Z Fx.agg35 (.head _) Z) Z<|.sW (.tail<|.tail<|.tail<|.head) Z Z Fx.size35 (by simp [Value.oneCell',strV]) Z<|.nt<|.rt<|?_
 refine At.pm [2,1,3] [_,_,_] rfl rfl ?_;refine Sx.freezeSeq (ds := ex.map (dEx .u8)) (List.length_map ..) (hzX.up u1.up) fun H3 p3 c3 u3 hr3 hs3 => ?_;refine Sx.freezeSeq (ds := args.map (dFm .u8)) (List.length_map ..) (hz.up u3.up) fun H4 p4 c4 u4 hr4 hs4 => ?_;refine Sx.ret1 (.inl rfl) rfl (.cell rfl Fx.agg35 (.head _) rfl) fun W s => ⟨_,H4,fm_shut hnm hfd (hs3.up u4.up) hs4,rfl,(((uX.trans u1).trans u3).trans u4).grow s⟩
def zE : Ex := .mk 0 [] 0 []
def zF : Fm := .mk 0 [] [] 0 0 [] []
structure Ov where
 kd : UInt8
 lv : Nat
 tm : Bool
 op : UInt8
 f : Fm
structure Vl where
 tm : Bool
 wh : Bool
 e : Ex
 f : Fm
structure Rq where
 i : Nat
 off : Nat
 er : Nat
abbrev Vb := List Vl × Bool
structure Ps where
 c : Rq
 op : List Ov
 x : Vb
 rd : Bool
 dn : Bool
abbrev Tks := List Tk
def zV : Vl := ⟨false,false,zE,zF⟩
def bO : Ov := ⟨1,0,false,0,zF⟩
section
variable (l : Tks)
def tkf (i : Nat) : Tk := l.getD i ⟨0,[],0⟩
def Rq.fail (c : Nat) (q : Rq) : Rq := if q.er = 0 then ⟨q.i,(tkf l q.i).o,c⟩ else q
def Rq.is (w : Str) (q : Rq) : Bool := (decide ((tkf l q.i).k = 2) || decide ((tkf l q.i).k = 4)) && decide ((tkf l q.i).t = w)
def Rq.ac (w : Str) (q : Rq) : Bool := decide (q.er = 0) && q.is l w
def Rq.nx (q : Rq) : Rq := ⟨q.i + 1,q.off,q.er⟩
def Rq.acS (w : Str) (q : Rq) : Rq := if q.ac l w then q.nx else q
def Rq.exS (w : Str) (q : Rq) : Rq := if q.ac l w then q.nx else q.fail l 8
def Rq.nmK (q : Rq) : Bool := decide (q.er = 0) && decide ((tkf l q.i).k = 1)
def Rq.nmV (q : Rq) : Str := if q.nmK l then (tkf l q.i).t else []
def Rq.nmS (q : Rq) : Rq := if q.nmK l then q.nx else q.fail l 8
def Rq.nbB (q : Rq) : Bool := decide (q.er = 0) && decide ((tkf l q.i).k = 3)
def Rq.fit (q : Rq) : Bool := decide (numV (tkf l q.i).t ≤ 9223372036854775807)
def Rq.nbV (q : Rq) : Int64 := if q.nbB l && q.fit l then Int64.ofNat (numV (tkf l q.i).t) else 0
def Rq.nbS (q : Rq) : Rq := if q.nbB l then (if q.fit l then q.nx else q.fail l 2) else q.fail l 8
def Rq.paS (q : Rq) : Rq := ((q.nmS l).exS l [46]).nmS l
def Rq.paN (q : Rq) : Str := q.nmV l
def Rq.paF (q : Rq) : Str := ((q.nmS l).exS l [46]).nmV l
def Rq.paV (op : UInt8) (q : Rq) : Fm := .mk op (q.paN l) (q.paF l) 0 0 [] []
def Rq.wiA (q : Rq) : Int64 := if q.ac l [91] then q.nx.nbV l else 0
def Rq.wiB (q : Rq) : Int64 := if q.ac l [91] then ((q.nx.nbS l).exS l [44]).nbV l else -1
def Rq.wiS (q : Rq) : Rq := if q.ac l [91] then (((q.nx.nbS l).exS l [44]).nbS l).exS l [93] else q
def Rq.wiV (op : UInt8) (q : Rq) : Fm := .mk op [] [] (q.wiA l) (q.wiB l) [] []
def Rq.boV (q : Rq) : Int64 := if q.ac l [45] then -(q.nx.nbV l) else q.nbV l
def Rq.boS (q : Rq) : Rq := if q.ac l [45] then q.nx.nbS l else q.nbS l
def Rq.ama (q : Rq) : Rq := (q.nmS l).exS l [105,110]
def Rq.amb (q : Rq) : Rq := ((q.ama l).boS l).exS l [46,46]
def Rq.amV (op : UInt8) (q : Rq) : Fm := .mk op (q.nmV l) [] ((q.ama l).boV l) ((q.amb l).boV l) [] []
def Rq.amS (q : Rq) : Rq := (q.amb l).boS l
end
def topO (q : Ps) : Ov := q.op.headD bO
def topV (x : Vb) : Vl := x.1.headD zV
def Ps.at (c : Rq) (q : Ps) : Ps := ⟨c,q.op,q.x,q.rd,q.dn⟩
def Ov.inh (o : Ov) (b : Bool) : Ov := if 0 < o.lv then ⟨o.kd,o.lv,b,o.op,o.f⟩ else o
def pushS (o : Ov) (q : Ps) : Ps := ⟨q.c,o.inh (topO q).tm :: q.op,q.x,false,q.dn⟩
def giveS (v : Vl) (q : Ps) : Ps := ⟨q.c,q.op,(v :: q.x.1,q.x.2),true,q.dn⟩
def tE (x : Vb) : Ex := (topV x).e
def tS (x : Vb) : Vb := (x.1.tail,x.2 || !(topV x).tm)
def Vl.noF (v : Vl) : Bool := v.tm && (!decide (v.e.op = 5) || (splitF v.e.nm).isNone)
def spA (n : Str) : Str := match splitF n with | some (a,_) => a | none => []
def spB (n : Str) : Str := match splitF n with | some (_,b) => b | none => []
def Vl.fm (v : Vl) : Fm := if v.tm then .mk 4 (spA v.e.nm) (spB v.e.nm) 0 0 [] [] else v.f
def fF (x : Vb) : Fm := (topV x).fm
def fS (x : Vb) : Vb := (x.1.tail,x.2 || (topV x).noF)
def tmv (e : Ex) : Vl := ⟨true,false,e,zF⟩
def fmv (f : Fm) : Vl := ⟨false,false,zE,f⟩
def Fm.wEx (f : Fm) (ex : List Ex) : Fm := .mk f.op f.nm f.fd f.a f.b ex f.args
def Fm.wAr (f : Fm) (args : List Fm) : Fm := .mk f.op f.nm f.fd f.a f.b f.ex args
def Vb.put (v : Vl) (x : Vb) : Vb := (v :: x.1,x.2)
def comb (o : Ov) (x : Vb) : Vb :=
 if o.kd = 10 then (tS x).put (tmv (.mk 9 [] 0 [tE x]))
 else if o.kd = 9 then (tS (tS x)).put (tmv (.mk o.op [] 0 [tE (tS x),tE x]))
 else if o.kd = 8 then (tS (tS x)).put (fmv (.mk 3 [] [] 0 0 [.mk o.op [] 0 [tE (tS x),tE x]] []))
 else if o.kd = 7 then (fS x).put (fmv (o.f.wAr [fF x]))
 else if o.kd = 6 then (fS (fS x)).put (fmv (o.f.wAr [fF (fS x),fF x]))
 else x
def redL (lv : Nat) : List Ov → Vb → List Ov × Vb
 | [],x => ([],x)
 | o :: r,x => if lv ≤ o.lv then redL lv r (comb o x) else (o :: r,x)
def redP (lv : Nat) (q : Ps) : Ps := ⟨q.c,(redL lv q.op q.x).1,(redL lv q.op q.x).2,q.rd,q.dn⟩
section
variable (l : Tks)
def prefS (q : Ps) : Option Ps :=
 if q.c.ac l [110,111,116] then some (pushS ⟨7,5,false,0,.mk 8 [] [] 0 0 [] []⟩ (q.at q.c.nx))
 else if q.c.ac l [112,114,101,118,105,111,117,115] then some (pushS ⟨7,5,false,0,.mk 12 [] [] 0 0 [] []⟩ (q.at q.c.nx))
 else if q.c.ac l [111,110,99,101] then some (pushS ⟨7,5,false,0,q.c.nx.wiV l 13⟩ (q.at (q.c.nx.wiS l)))
 else if q.c.ac l [97,108,119,97,121,115] then some (pushS ⟨7,5,false,0,q.c.nx.wiV l 14⟩ (q.at (q.c.nx.wiS l)))
 else if q.c.ac l [102,111,114,97,108,108] then some (pushS ⟨7,5,false,0,q.c.nx.amV l 16⟩ (q.at (q.c.nx.amS l)))
 else if q.c.ac l [101,120,105,115,116,115] then some (pushS ⟨7,5,false,0,q.c.nx.amV l 17⟩ (q.at (q.c.nx.amS l)))
 else if q.c.ac l [99,111,117,110,116] then some (pushS ⟨3,0,false,0,q.c.nx.amV l 18⟩ (q.at ((q.c.nx.amS l).exS l [40])))
 else none
def Rq.ful (q : Rq) : Str := q.nmV l ++ [46] ++ (q.nmS l).nx.nmV l
def varP (q : Ps) : Ps :=
 if (q.c.nmS l).ac l [46] then
  if ((q.c.nmS l).nx.nmS l).ac l [91] then pushS ⟨4,0,true,6,.mk 0 (q.c.ful l) [] 0 0 [] []⟩ (q.at ((q.c.nmS l).nx.nmS l).nx)
  else giveS (tmv (.mk 5 (q.c.ful l) 0 [])) (q.at ((q.c.nmS l).nx.nmS l))
 else giveS (tmv (.mk 5 (q.c.nmV l) 0 [])) (q.at (q.c.nmS l))
def arrP (q : Ps) : Ps :=
 if ((q.c.paS l).exS l [40]).ac l [41] then giveS (fmv (q.c.paV l 7)) (q.at ((q.c.paS l).exS l [40]).nx)
 else pushS ⟨5,0,true,0,q.c.paV l 7⟩ (q.at ((q.c.paS l).exS l [40]))
def fmsB (q : Ps) : Bool := !(topO q).tm && decide ((topO q).lv ≤ 5)
def re2P (q : Ps) : Ps :=
 if q.c.ac l [45] then pushS ⟨10,9,false,0,zF⟩ (q.at q.c.nx)
 else if q.c.ac l [40] then pushS ⟨2,0,false,0,zF⟩ (q.at q.c.nx)
 else if (tkf l q.c.i).k = 3 then giveS (tmv (.mk 1 [] (q.c.nbV l) [])) (q.at (q.c.nbS l))
 else if (tkf l q.c.i).k = 1 then varP l q
 else if q.c.ac l [110,111,119] then giveS (tmv (.mk 4 [] 0 [])) (q.at q.c.nx)
 else if q.c.ac l [115,105,122,101] then giveS (tmv (.mk 8 (q.c.nx.paN l ++ [46] ++ q.c.nx.paF l) 0 [])) (q.at (q.c.nx.paS l))
 else if q.c.ac l [116,114,117,101] then giveS (fmv (.mk 1 [] [] 0 0 [] [])) (q.at q.c.nx)
 else if q.c.ac l [102,97,108,115,101] then giveS (fmv (.mk 2 [] [] 0 0 [] [])) (q.at q.c.nx)
 else if q.c.ac l [102,108,97,103] then giveS (fmv (.mk 6 (q.c.nx.nmV l) [] 0 0 [] [])) (q.at (q.c.nx.nmS l))
 else if q.c.ac l [104,97,115] then pushS ⟨4,0,true,0,q.c.nx.paV l 5⟩ (q.at ((q.c.nx.paS l).exS l [91]))
 else if q.c.ac l [97,114,114,105,118,101,115] then arrP l (q.at q.c.nx)
 else q.at (q.c.fail l 8)
def restP (q : Ps) : Ps := if (topO q).kd = 5 ∧ q.c.ac l [95] = true then giveS ⟨true,true,zE,zF⟩ (q.at q.c.nx) else re2P l q
def operandP (q : Ps) : Ps := match (if fmsB q then prefS l q else none) with | some q' => q' | none => restP l q
def fsyms : List Str := [[],[],[],[],[],[],[],[],[],[],[],[42],[47],[37],[43],[45],[61,61],[33,61],[60],[60,61],[62],[62,61]]
def betP (op : UInt8) (q : Ps) : Ps :=
 if 16 ≤ op then
  (if (topV q.x).wh || (topO (redP 7 q)).tm || decide ((topO (redP 7 q)).kd = 8) then (redP 7 q).at (q.c.fail l 8) else pushS ⟨8,6,false,op,zF⟩ ((redP 7 q).at q.c.nx))
 else if op ≤ 13 then
  (if (topV q.x).wh then (redP 8 q).at (q.c.fail l 8) else pushS ⟨9,8,false,op,zF⟩ ((redP 8 q).at q.c.nx))
 else (if (topV q.x).wh then (redP 7 q).at (q.c.fail l 8) else pushS ⟨9,7,false,op,zF⟩ ((redP 7 q).at q.c.nx))
def Rq.joV (q : Rq) : Fm := if q.ac l [115,105,110,99,101] then q.nx.wiV l 15 else if q.ac l [97,110,100] then .mk 9 [] [] 0 0 [] [] else if q.ac l [111,114] then .mk 10 [] [] 0 0 [] [] else if q.ac l [105,109,112,108,105,101,115] then .mk 11 [] [] 0 0 [] [] else zF
def Rq.joS (q : Rq) : Rq := if q.ac l [115,105,110,99,101] then q.nx.wiS l else if q.ac l [97,110,100] then q.nx else if q.ac l [111,114] then q.nx else if q.ac l [105,109,112,108,105,101,115] then q.nx else q
def joiP (q : Ps) : Ps := if (topO q).tm then q.at (q.c.fail l 8) else pushS ⟨6,(fsOf (q.c.joV l).op).lv,false,0,q.c.joV l⟩ (redP (fsOf (q.c.joV l).op).lv (q.at (q.c.joS l)))
def cloS (c : Rq) (v : Vl) (x : Vb) (q : Ps) : Ps := ⟨c,q.op.tail,x.put v,true,q.dn⟩
def clgP (q : Ps) : Ps :=
 if (topO q).kd = 1 ∧ (tkf l q.c.i).k = 0 then ⟨q.c,q.op,q.x,q.rd,true⟩
 else if (topO q).kd = 2 ∧ q.c.ac l [41] = true then cloS q.c.nx ⟨(topV q.x).tm,false,(topV q.x).e,(topV q.x).f⟩ (q.x.1.tail,q.x.2) q
 else if (topO q).kd = 3 ∧ q.c.ac l [41] = true then
  cloS ((q.c.nx.exS l [62,61]).nbS l) ⟨false,true,zE,((topO q).f.wEx [.mk 1 [] ((q.c.nx.exS l [62,61]).nbV l) []]).wAr [fF q.x]⟩ (fS q.x) q
 else if (topO q).kd = 4 ∧ q.c.ac l [93] = true then
  (if (topO q).op = 6 then cloS q.c.nx (tmv (.mk 6 (topO q).f.nm 0 [tE q.x])) (tS q.x) q
  else cloS q.c.nx (fmv ((topO q).f.wEx [tE q.x])) (tS q.x) q)
 else if (topO q).kd = 5 ∧ q.c.ac l [44] = true then
  ⟨q.c.nx,⟨(topO q).kd,(topO q).lv,(topO q).tm,(topO q).op,(topO q).f.wEx ((topO q).f.ex ++ [tE q.x])⟩ :: q.op.tail,tS q.x,false,q.dn⟩
 else if (topO q).kd = 5 ∧ q.c.ac l [41] = true then cloS q.c.nx (fmv ((topO q).f.wEx ((topO q).f.ex ++ [tE q.x]))) (tS q.x) q
 else q.at (q.c.fail l 8)
def symF (t : Str) : Option Nat := (List.range 22).find? fun i => decide (fsyms.getD i [] = t) && decide (¬ i = 0)
def Rq.endB (q : Rq) : Bool := q.is l [41] || q.is l [93] || q.is l [44] || decide ((tkf l q.i).k = 0)
def Rq.wrd (q : Rq) : Bool := q.is l [115,105,110,99,101] || q.is l [97,110,100] || q.is l [111,114] || q.is l [105,109,112,108,105,101,115]
def othP (q : Ps) : Ps := if q.c.wrd l then joiP l q else if q.c.endB l then clgP l (redP 1 q) else q.at (q.c.fail l 8)
def Rq.sym (q : Rq) : Option Nat := if (tkf l q.i).k = 2 ∨ (tkf l q.i).k = 4 then symF (tkf l q.i).t else none
def operatorP (q : Ps) : Ps := match q.c.sym l with | some i => betP l (UInt8.ofNat i) q | none => othP l q
def stepP (q : Ps) : Ps := if q.rd then operatorP l q else operandP l q
def Ps.fin (q : Ps) : Prop := q.dn = true ∨ ¬ q.c.er = 0
instance (q : Ps) : Decidable q.fin := by unfold Ps.fin;infer_instance
def runP : Nat → Ps → Ps
 | 0,q => q
 | n + 1,q => if q.fin then q else runP n (stepP l q)
def iniP : Ps := ⟨⟨0,0,0⟩,[bO],([],false),false,false⟩
def endP (q : Ps) : Fm × Nat × Nat :=
 if ¬ q.c.er = 0 then (zF,q.c.off,q.c.er)
 else if (fS q.x).2 then (zF,0,6)
 else if ¬ fcheck (fF q.x) = 0 then (zF,0,fcheck (fF q.x))
 else (fF q.x,0,0)
def parF : Fm × Nat × Nat := endP (runP l l.length iniP)
end
def Tlast (l : Tks) : Prop := ∀ i,i < l.length → (tkf l i).k ≠ 0 → i + 1 < l.length
section
variable {l : Tks} {q : Rq} {w : Str} {c : Nat}
theorem fail_i : (q.fail l c).i = q.i := by unfold Rq.fail;split <;> rfl
theorem is_k (h : q.is l w = true) : (tkf l q.i).k ≠ 0 := by
 unfold Rq.is at h;rw [Bool.and_eq_true,Bool.or_eq_true,decide_eq_true_eq,decide_eq_true_eq] at h;rcases h.1 with e | e <;> rw [e] <;> decide
theorem acF_is (h : q.ac l w = true) : q.is l w = true := by unfold Rq.ac at h;rw [Bool.and_eq_true] at h;exact h.2
theorem acF_er (h : q.ac l w = true) : q.er = 0 := by unfold Rq.ac at h;rw [Bool.and_eq_true,decide_eq_true_eq] at h;exact h.1
theorem acF_t (h : q.ac l w = true) : (tkf l q.i).t = w := by
 have := acF_is h;unfold Rq.is at this;rw [Bool.and_eq_true,decide_eq_true_eq] at this;exact this.2
theorem acF_k (h : q.ac l w = true) : (tkf l q.i).k = 2 ∨ (tkf l q.i).k = 4 := by
 have := acF_is h;unfold Rq.is at this;rw [Bool.and_eq_true,Bool.or_eq_true,decide_eq_true_eq,decide_eq_true_eq] at this;exact this.1
structure Mq (q q' : Rq) : Prop where
 i : q.i ≤ q'.i
 er : q.er ≠ 0 → q' = q
theorem Mq.refl (q : Rq) : Mq q q := ⟨Nat.le_refl _,fun _ => rfl⟩
theorem Mq.trans {a b c : Rq} (h : Mq a b) (k : Mq b c) : Mq a c := ⟨Nat.le_trans h.i k.i,fun e => by have := h.er e;subst this;exact k.er e⟩
theorem Mq.nx (h : q.er = 0) : Mq q q.nx := ⟨Nat.le_succ _,fun e => absurd h e⟩
theorem Mq.fail : Mq q (q.fail l c) := ⟨by rw [fail_i];exact Nat.le_refl _,fun e => by unfold Rq.fail;rw [if_neg e]⟩
theorem Mq.exS : Mq q (q.exS l w) := by
 unfold Rq.exS
 split
 ·rename_i h;exact .nx (acF_er h)
 ·exact .fail
theorem nmK_er (h : q.nmK l = true) : q.er = 0 ∧ (tkf l q.i).k = 1 := by
 unfold Rq.nmK at h;rw [Bool.and_eq_true,decide_eq_true_eq,decide_eq_true_eq] at h;exact h
theorem nbB_er (h : q.nbB l = true) : q.er = 0 ∧ (tkf l q.i).k = 3 := by
 unfold Rq.nbB at h;rw [Bool.and_eq_true,decide_eq_true_eq,decide_eq_true_eq] at h;exact h
theorem Mq.nmS : Mq q (q.nmS l) := by
 unfold Rq.nmS
 split
 ·rename_i h;exact .nx (nmK_er h).1
 ·exact .fail
theorem Mq.nbS : Mq q (q.nbS l) := by
 unfold Rq.nbS
 split
 ·rename_i h
  split
  ·exact .nx (nbB_er h).1
  ·exact .fail
 ·exact .fail
theorem Mq.paS : Mq q (q.paS l) := (Mq.nmS.trans .exS).trans .nmS
theorem Mq.wiS : Mq q (q.wiS l) := by
 unfold Rq.wiS
 split
 ·rename_i h;exact (((Mq.nx (acF_er h)).trans .nbS).trans .exS).trans (.trans .nbS .exS)
 ·exact .refl q
theorem Mq.boS : Mq q (q.boS l) := by
 unfold Rq.boS
 split
 ·rename_i h;exact (Mq.nx (acF_er h)).trans .nbS
 ·exact .nbS
theorem Mq.ama : Mq q (q.ama l) := Mq.nmS.trans .exS
theorem Mq.amb : Mq q (q.amb l) := (Mq.ama.trans .boS).trans .exS
theorem Mq.amS : Mq q (q.amS l) := Mq.amb.trans .boS
theorem Mq.joS : Mq q (q.joS l) := by
 unfold Rq.joS
 split
 ·rename_i h;exact (Mq.nx (acF_er h)).trans .wiS
 split
 ·rename_i h;exact .nx (acF_er h)
 split
 ·rename_i h;exact .nx (acF_er h)
 split
 ·rename_i h;exact .nx (acF_er h)
 exact .refl q
variable (T : Tlast l) (hq : q.i < l.length)
include T hq
theorem wi_ac (h : q.ac l w = true) : q.nx.i < l.length := T _ hq (is_k (acF_is h))
theorem wi_ex : (q.exS l w).i < l.length := by
 unfold Rq.exS
 split
 ·rename_i h;exact wi_ac T hq h
 ·rw [fail_i];exact hq
theorem wi_nmK (h : q.nmK l = true) : q.nx.i < l.length := T _ hq (by rw [(nmK_er h).2];decide)
theorem wi_nm : (q.nmS l).i < l.length := by
 unfold Rq.nmS
 split
 ·rename_i h;exact wi_nmK T hq h
 ·rw [fail_i];exact hq
theorem wi_nb : (q.nbS l).i < l.length := by
 unfold Rq.nbS
 split
 ·rename_i h
  split
  ·exact T _ hq (by rw [(nbB_er h).2];decide)
  ·rw [fail_i];exact hq
 ·rw [fail_i];exact hq
theorem wi_pa : (q.paS l).i < l.length := wi_nm T (wi_ex T (wi_nm T hq))
theorem wi_wi : (q.wiS l).i < l.length := by
 unfold Rq.wiS
 split
 ·rename_i h;exact wi_ex T (wi_nb T (wi_ex T (wi_nb T (wi_ac T hq h))))
 ·exact hq
theorem wi_bo : (q.boS l).i < l.length := by
 unfold Rq.boS
 split
 ·rename_i h;exact wi_nb T (wi_ac T hq h)
 ·exact wi_nb T hq
theorem wi_ama : (q.ama l).i < l.length := wi_ex T (wi_nm T hq)
theorem wi_amb : (q.amb l).i < l.length := wi_ex T (wi_bo T (wi_ama T hq))
theorem wi_am : (q.amS l).i < l.length := wi_bo T (wi_amb T hq)
theorem wi_jo : (q.joS l).i < l.length := by
 unfold Rq.joS
 split
 ·rename_i h;exact wi_wi T (wi_ac T hq h)
 split
 ·rename_i h;exact wi_ac T hq h
 split
 ·rename_i h;exact wi_ac T hq h
 split
 ·rename_i h;exact wi_ac T hq h
 exact hq
end
def cnO (o : Ov) : Bool := decide (o.kd = 6) || decide (o.kd = 8) || decide (o.kd = 9)
def cntB (l : List Ov) : Nat := (l.filter cnO).length
def okO (o : Ov) : Bool := decide (2 ≤ o.kd.toNat) && decide (o.kd.toNat ≤ 10) && (decide (5 < o.kd.toNat) == decide (0 < o.lv))
structure Fwf (l : Tks) (q : Ps) : Prop where
 i : q.c.i < l.length
 op : ∃ r,q.op = r ++ [bO] ∧ ∀ o ∈ r,okO o = true
 vs : q.x.1.length = cntB q.op + (if q.rd then 1 else 0)
 so : q.op.length ≤ q.c.i + 1
section
variable {l : Tks} {q : Ps} {w : Str} {c : Nat} {o : Ov} {b : Bool}
theorem cnt_cons (o : Ov) (r : List Ov) : cntB (o :: r) = (if cnO o then 1 else 0) + cntB r := by unfold cntB;rw [List.filter_cons];split <;> simp [Nat.add_comm]
theorem inh_kd : (o.inh b).kd = o.kd := by unfold Ov.inh;split <;> rfl
theorem inh_lv : (o.inh b).lv = o.lv := by unfold Ov.inh;split <;> rfl
theorem inh_f : (o.inh b).f = o.f := by unfold Ov.inh;split <;> rfl
theorem inh_ok : okO (o.inh b) = okO o := by unfold okO;rw [inh_kd,inh_lv]
theorem inh_cn : cnO (o.inh b) = cnO o := by unfold cnO;rw [inh_kd]
theorem wf_push {c : Rq} (h : Fwf l q) (hc : c.i < l.length) (hi : q.c.i < c.i) (ho : okO o = true) (hr : cnO o = q.rd) : Fwf l (pushS o (q.at c)) := by
 obtain ⟨r,e,hr2⟩ := h.op;refine ⟨hc,⟨o.inh (topO q).tm :: r,?_,?_⟩,?_,?_⟩
 ·show _ :: q.op = _;rw [e];rfl
 ·intro x hx;rcases List.mem_cons.1 hx with rfl | hx
  ·rw [inh_ok];exact ho
  ·exact hr2 x hx
 ·show q.x.1.length = cntB (_ :: q.op) + 0;rw [cnt_cons,inh_cn,hr,h.vs];cases q.rd <;> simp [Nat.add_comm]
 ·show q.op.length + 1 ≤ c.i + 1;have := h.so;omega
theorem wf_give {v : Vl} {c : Rq} (h : Fwf l q) (hc : c.i < l.length) (hi : q.c.i ≤ c.i) (hr : q.rd = false) : Fwf l (giveS v (q.at c)) := by
 refine ⟨hc,h.op,?_,?_⟩
 ·show (v :: q.x.1).length = cntB q.op + 1;rw [List.length_cons,h.vs,hr];simp
 ·show q.op.length ≤ c.i + 1;have := h.so;omega
theorem wf_at {c : Rq} (h : Fwf l q) (hc : c.i < l.length) (hi : q.c.i ≤ c.i) : Fwf l (q.at c) := ⟨hc,h.op,h.vs,by show q.op.length ≤ c.i + 1;have := h.so;omega⟩
theorem Fwf.top (h : Fwf l q) : (q.op = [bO] ∧ topO q = bO) ∨ ∃ r,q.op = topO q :: (r ++ [bO]) ∧ okO (topO q) = true ∧ ∀ o ∈ r,okO o = true := by
 obtain ⟨r,e,hr⟩ := h.op;unfold topO;rw [e];cases r with
 | nil => exact .inl ⟨rfl,rfl⟩
 | cons o r => exact .inr ⟨r,rfl,hr _ (List.mem_cons_self ..),fun x hx => hr x (List.mem_cons_of_mem _ hx)⟩
theorem Fwf.ne (h : Fwf l q) : q.op ≠ [] := by
 obtain ⟨r,e,_⟩ := h.op;rw [e];simp
theorem put_len (v : Vl) (x : Vb) : (x.put v).1.length = x.1.length + 1 := rfl
theorem tS_len (x : Vb) : (tS x).1.length = x.1.length - 1 := List.length_tail
theorem fS_len (x : Vb) : (fS x).1.length = x.1.length - 1 := List.length_tail
theorem okO_kd (h : okO o = true) : o.kd = 2 ∨ o.kd = 3 ∨ o.kd = 4 ∨ o.kd = 5 ∨ o.kd = 6 ∨ o.kd = 7 ∨ o.kd = 8 ∨ o.kd = 9 ∨ o.kd = 10 := by
 unfold okO at h;rw [Bool.and_eq_true,Bool.and_eq_true,decide_eq_true_eq,decide_eq_true_eq] at h;have h1 := h.1.1;have h2 := h.1.2;have hk : ∀ n : Nat,n < 256 → o.kd.toNat = n → o.kd = UInt8.ofNat n := fun n hn e => UInt8.toNat_inj.1 (by rw [UInt8.toNat_ofNat_of_lt' hn];exact e);have : o.kd.toNat = 2 ∨ o.kd.toNat = 3 ∨ o.kd.toNat = 4 ∨ o.kd.toNat = 5 ∨ o.kd.toNat = 6 ∨ o.kd.toNat = 7 ∨ o.kd.toNat = 8 ∨ o.kd.toNat = 9 ∨ o.kd.toNat = 10 := by omega
 rcases this with e | e | e | e | e | e | e | e | e <;> have := hk _ (by decide) e <;> rw [this] <;> decide
theorem okO_lv (h : okO o = true) : (o.kd = 6 ∨ o.kd = 7 ∨ o.kd = 8 ∨ o.kd = 9 ∨ o.kd = 10) ↔ 0 < o.lv := by
 have hk := okO_kd h;unfold okO at h;rw [Bool.and_eq_true,beq_iff_eq] at h;have h2 := h.2;rcases hk with e | e | e | e | e | e | e | e | e <;> rw [e] at h2 <;> rw [e] <;> by_cases h0 : 0 < o.lv <;> simp [h0] at h2 ⊢
theorem comb_len (ho : okO o = true) (h0 : 0 < o.lv) {x : Vb} (h : (if cnO o then 2 else 1) ≤ x.1.length) : (comb o x).1.length = x.1.length - (if cnO o then 1 else 0) := by
 have hk := (okO_lv ho).2 h0;unfold comb cnO at *;rcases hk with e | e | e | e | e <;> simp [e,put_len,tS_len,fS_len] at h ⊢ <;> omega
theorem redL_wf {lv : Nat} (hl : 1 ≤ lv) : ∀ (r : List Ov) (x : Vb),(∀ o ∈ r,okO o = true) → x.1.length = cntB (r ++ [bO]) + 1 → ∃ r' y,redL lv (r ++ [bO]) x = (r' ++ [bO],y) ∧ r' <:+ r ∧ y.1.length = cntB (r' ++ [bO]) + 1 ∧ (∀ o,r'.head? = some o → o.lv < lv)
 | [],x,_,h => ⟨[],x,by rw [List.nil_append,redL,if_neg (by show ¬ lv ≤ 0;omega)],List.suffix_refl _,h,fun o e => by cases e⟩
 | o :: r,x,ho,h => by
  rw [List.cons_append,redL];rw [List.cons_append,cnt_cons] at h;have hok := ho o (List.mem_cons_self ..)
  split
  ·rename_i h1;have h2 := comb_len hok (by omega) (x := x) (by rw [h];split <;> omega);obtain ⟨r',y,e,hs,hy,ht⟩ := redL_wf hl r (comb o x) (fun z hz => ho z (List.mem_cons_of_mem _ hz)) (by rw [h2,h];split <;> omega);exact ⟨r',y,e,hs.trans (List.suffix_cons o r),hy,ht⟩
  ·rename_i h1;exact ⟨o :: r,x,rfl,List.suffix_refl _,by rw [List.cons_append,cnt_cons];exact h,fun z e => by injection e with e;subst e;omega⟩
theorem wf_red {lv : Nat} (hl : 1 ≤ lv) (h : Fwf l q) (hr : q.rd = true) : Fwf l (redP lv q) := by
 obtain ⟨r,e,ho⟩ := h.op;have hv := h.vs;rw [e,hr] at hv;obtain ⟨r',y,e2,hs,hy,_⟩ := redL_wf hl r q.x ho hv;have h1 : (redP lv q).op = r' ++ [bO] := by unfold redP;rw [e,e2]
 have h2 : (redP lv q).x = y := by unfold redP;rw [e,e2]
 refine ⟨h.i,⟨r',h1,fun o hz => ho o (hs.subset hz)⟩,?_,?_⟩
 ·rw [h1,h2];show _ = _ + (if q.rd then 1 else 0);rw [hr];exact hy
 ·rw [h1];have := hs.length_le;have h3 := h.so;rw [e] at h3;show _ ≤ q.c.i + 1;rw [List.length_append] at h3 ⊢;omega
end
end Go.Proofs.YtidclioghdbphaaGreatDoor
