/- Texts of the proof, one behind the other. -/
import Derived.Test.YtohfacbajcenoaaGreatDoorMf
set_option linter.all false
set_option maxRecDepth 100000
namespace Go.Proofs.YtohfacbajcenoaaGreatDoor
open Go.RowKit Go.Par Go.Sx
theorem XpOk.one {H H' : Hp} {ces : List Value} {x : Xp} (h : XpOk H ces x H') : ∀ u ∈ x.c,u.oneCell' = true := by
 have hv : x.v.oneCell' = true := by rcases h.at_ with ⟨e,_⟩ | ⟨_,e,_⟩ <;> rw [e] <;> rfl
 intro u hu;simp only [Xp.c,List.mem_cons,List.not_mem_nil,or_false] at hu;rcases hu with rfl | rfl | rfl | rfl <;> first | rfl | exact hv
theorem trf_refl {H : Hp} : Trf H H := fun f cs _ h => ⟨f,⟨rfl,rfl,rfl,A2.refl (fun c => ⟨.inl (A2.refl (fun _ h => h) _),.inl (A2.refl (fun v => .inl (A2.refl (fun h => ⟨by omega,Nat.le_refl _,Nat.le_refl _,fun N D k => salls_imp (fun s => by
 obtain ⟨kd,nm,hd,ex,th,el⟩ := s;simp only [okSD,Bool.and_eq_true,decide_eq_true_eq];intro k;exact ⟨⟨k.1.1,by omega⟩,k.2⟩) _ k⟩) _)) _)⟩) _⟩,h⟩
theorem trf_up {H H1 H2 : Hp} (u : Up H H1) (t : Trf H1 H2) : Trf H H2 := fun f cs hp h => t f cs hp (h.up u)
theorem drop_rep {b o n c : Nat} {G : Hp} {l : List Ex} (hn : 1 ≤ n) (h : Rep G (.seq 4 (l.map (dEx .i64))) [.slice (some ⟨b,o,none⟩) n c]) : Rep G (.seq 4 ((l.drop 1).map (dEx .i64))) [.slice (some (if c = 1 then ⟨b,o,none⟩ else ⟨b,o + 1 * 4,none⟩)) (n - 1) (c - 1)] := by
 have := rep_drop h (lo := 1) hn;rw [← List.map_drop] at this;exact this
def StC (w0 : World) (H0 H : Hp) (k : Nat) (z : Hp × Int) : Prop := (z.2 = -1 ∧ Trf H z.1 ∧ Inv w0 H0 z.1) ∨ (0 ≤ z.2 ∧ z.2 ≤ k ∧ z.1 = H)
set_option maxHeartbeats 4000000 in
set_option maxRecDepth 100000 in
theorem statement8_st {w0 : World} {H0 : Hp} : ∀ (l : List Sm) (H : Hp) (W : World) (bs : List Res) (v : Value) (k0 : Nat) (c : Chg),Inv w0 H0 H → Rep H (.seq 6 (l.map (dSm .i64))) [v] → k0 ≤ 1000000 → St H w0 bs W →
 Calls Tryz.prog 50 #[v,.int .i64 (k0 : Nat),.agg (cChg c).toArray] W fun e W' => ∃ z : Hp × Int,StC w0 H0 H k0 z ∧ e = .returned (.int .i64 z.2) ∧ St z.1 w0 bs W' := by
 refine Sm.lists fun l ih => ?_;intro H W bs v k0 c I hs hk00 s;obtain ⟨p,cp,e,hlen,_⟩ := hs.sl;simp only [List.cons.injEq,and_true,List.length_map] at e;subst e;rw [List.length_map] at hlen;have hcap := hs.cap;refine Sx.enterS Tryz.func50 rfl Tryz.ntmps50 rfl s ?_;refine .sr<|.bx Z Z Z fun b5 => .a Z Z<|.nt<|.sq<|.sr<|.m Z Z<|.yv (.lenSl Fx.sl80 Z) Z<|.m Z Z<|.nt<|.bk<|.lp (X := Nat × Nat) [(0,_),(5,_),(10,_)] ⟨rfl,rfl,rfl,trivial⟩ (_ :: bs) (fun z => [(11,.int .i64 (z.1 : Nat)),(1,.int .i64 (z.2 : Nat))]) (fun z => H) (fun z => []) (fun z => z.1 ≤ l.length ∧ z.2 ≤ k0) (fun z => l.length - z.1) (0,k0) (fun _ s => s) ⟨rfl,rfl,trivial⟩ ⟨by simp,Nat.le_refl _⟩ fun z hC => ?_
 obtain ⟨i,k⟩ := z;dsimp only at hC ⊢;obtain ⟨hi0,hk0⟩ := hC;refine .sr<|.yv (.lss Z Z) Z<|.nt<|.sq<|.cd Z (fun h12 => ?_) (fun h12 => ?_)
 ·try simp only [dt] at h12
  have hi : i < l.length := by omega
  obtain ⟨bS,oS,csS,eS,rS,lS,mS,loS⟩ := hs.elemT (map_at hi) (txt_sm _);cases eS;have ihx := ih _ (List.getElem_mem hi);generalize hx : l[i] = x at rS ihx;obtain ⟨kd,nm,hd,ex,th,el⟩ := x;obtain ⟨p4,c4,p5,c5,p6,c6,rfl,hex,hth,hel,hn1,hn2⟩ := sm_open rS;obtain ⟨arS,tS,hHS,hbS,hoS⟩ := I.tgt loS mS (by simp);have hoS : oS + i * 6 + 6 ≤ arS.size := hoS;have hexc := hex.len;refine .sk<|.tN<|.sq<|.bk<|.sr<|.m Z Z<|.a Z Z<|.nt<|.sq<|.sr<|.m Z Z<|.yv (.eql Z Z) Z<|.nt<|.cd Z (fun h15 => ?_) (fun h15 => ?_)
  ·try simp only [dt] at h15
   have hk : k = 0 := by omega
   refine .sr<|.m Z Z<|.m Z Z<|.yv (.indexSl Fx.sl80 Z Z Z (by omega) (q := oS + i * 6) Z) Z<|.a Z Z<|.nt<|.sq<|.sr<|.yv (.fieldAddr Z Fx.field53_2) Z<|.yv (.load Z Fx.agg5 (.head _) Z) Z<|.yv (.quo Z Z (by decide) (c := ((c.j.toNat / 16 : Nat) : Int)) (qu8 _ c.j.toNat_lt (by decide))) Z<|.yv (.rem Z Z (by decide) (c := ((c.j.toNat / 16 % 5 : Nat) : Int)) (tm2 _ 5)) Z<|.nt<|.bk<|.sr<|.yv (.eql Z Z) Z<|.a Z Z<|.nt<|.cd Z (fun h61 => ?_) (fun h61 => ?_)
   ·try simp only [dt] at h61
    refine .sr<|.m Z Z<|.yv (.nilCheck Z) Z<|.yv (.fieldAddr Z Fx.field85_1) Z<|.yv (.loadM Z Fx.agg9 mS (k := 1) Z Z) Z<|.yv (.neS Z Z) Z<|.nt<|.cd Z (fun h67 => ?_) (fun h67 => ?_)
    ·try simp only [dt] at h67
     refine .rg<|.m Z Z<|.yv (.fieldAddr Z Fx.field53_4) Z<|.yv (.load Z Fx.agg5 (.head _) Z) Z<|.yv (.call Fx.call43 Z (fun W t => name8_any H c.nm W t.agr)) Z<|.yv (.nilCheck Z) Z<|.yv (.fieldAddr Z Fx.field85_1) Z<|.stH Z Z Fx.size9 Z hHS hbS (show oS + i * 6 + 1 < arS.size by omega) fun H3 e3 => ?_
     have tr : Trf H H3 := by rw [e3];exact tr_str mS (i := 1) rfl hHS (show (nmAt c.nm.toNat).length ≤ 1000000 by have := nmAt_len c.nm.toNat;omega)
     have I3 : Inv w0 H0 H3 := by rw [e3];exact I.put hbS
     refine .nl<|.bN<|.tN<|.sr<|.a Z Z<|.nt<|.rt<|.tR<|.bR<|.tR<|.tR<|.bR<|.tR<|?_
     exact Sx.ret1 (.inl rfl) rfl (.tmp rfl) fun W t => ⟨(H3,-1),.inl ⟨rfl,tr,I3⟩,rfl,t.drop⟩
    try simp only [df] at h67
    refine .sk<|.bN<|.tN<|.sr<|.a Z Z<|.nt<|.rt<|.tR<|.bR<|.tR<|.tR<|.bR<|.tR<|?_
    exact Sx.ret1 (.inl rfl) rfl (.tmp rfl) fun W t => ⟨(H,-1),.inl ⟨rfl,trf_refl,I⟩,rfl,t.drop⟩
   try simp only [df] at h61
   refine .sr<|.yv (.eql Z Z) Z<|.a Z Z<|.nt<|.cd Z (fun h74 => ?_) (fun h74 => ?_)
   ·try simp only [dt] at h74
    refine .sr<|.m Z Z<|.yv (.nilCheck Z) Z<|.yv (.fieldAddr Z Fx.field85_2) Z<|.yv (.loadM Z Fx.agg9 mS (k := 2) Z Z) Z<|.yv (.neS Z Z) Z<|.nt<|.cd Z (fun h80 => ?_) (fun h80 => ?_)
    ·try simp only [dt] at h80
     refine .rg<|.m Z Z<|.yv (.fieldAddr Z Fx.field53_4) Z<|.yv (.load Z Fx.agg5 (.head _) Z) Z<|.yv (.call Fx.call43 Z (fun W t => name8_any H c.nm W t.agr)) Z<|.yv (.nilCheck Z) Z<|.yv (.fieldAddr Z Fx.field85_2) Z<|.stH Z Z Fx.size9 Z hHS hbS (show oS + i * 6 + 2 < arS.size by omega) fun H3 e3 => ?_
     have tr : Trf H H3 := by rw [e3];exact tr_str mS (i := 2) rfl hHS (show (nmAt c.nm.toNat).length ≤ 1000000 by have := nmAt_len c.nm.toNat;omega)
     have I3 : Inv w0 H0 H3 := by rw [e3];exact I.put hbS
     refine .nl<|.bN<|.tN<|.sr<|.a Z Z<|.nt<|.rt<|.tR<|.bR<|.tR<|.tR<|.bR<|.tR<|?_
     exact Sx.ret1 (.inl rfl) rfl (.tmp rfl) fun W t => ⟨(H3,-1),.inl ⟨rfl,tr,I3⟩,rfl,t.drop⟩
    try simp only [df] at h80
    refine .sk<|.bN<|.tN<|.sr<|.a Z Z<|.nt<|.rt<|.tR<|.bR<|.tR<|.tR<|.bR<|.tR<|?_
    exact Sx.ret1 (.inl rfl) rfl (.tmp rfl) fun W t => ⟨(H,-1),.inl ⟨rfl,trf_refl,I⟩,rfl,t.drop⟩
   try simp only [df] at h74
   refine .sr<|.yv (.eql Z Z) Z<|.a Z Z<|.nt<|.cd Z (fun h87 => ?_) (fun h87 => ?_)
   ·try simp only [dt] at h87
    refine .sr<|.m Z Z<|.yv (.nilCheck Z) Z<|.yv (.fieldAddr Z Fx.field85_0) Z<|.yv (.loadM Z Fx.agg3 mS (k := 0) Z Z) Z<|.yv (.eql Z Z) Z<|.m Z Z<|.b2 (fun h94 => ?_) (fun h94 => ?_)
    ·try simp only [dt] at h94
     refine .gd Z Z<|.yv (.move Z) Z<|.gd Z Z<|.yv (.nilCheck Z) Z<|.gd Z Z<|.yv (.fieldAddr Z Fx.field85_3) Z<|.gd Z Z<|.yv (.loadM Z Fx.agg56 mS (k := 3) Z Z) Z<|.gd Z Z<|.yv (.lenSl Fx.sl56 Z) Z<|.gd Z Z<|.yv (.gtr Z Z) Z<|.yv (.pickT Z Z) Z<|.m Z Z<|.b2 (fun h102 => ?_) (fun h102 => ?_)
     ·try simp only [dt] at h102
      have hp : 0 < ex.length := by omega
      refine .gF Z Z Z Z<|.gF Z Z Z Z<|.gF Z Z Z Z<|.gF Z Z Z Z<|.gF Z Z Z Z<|.gF Z Z Z Z<|.gU Z Z Z<|.gU Z Z Z<|.gU Z Z Z<|.gU Z Z Z<|.gU Z Z Z<|.gU Z Z Z<|.gF Z Z Z Z<|.yv (.pickT Z Z) Z<|.nt<|.cT Z<|?_
      obtain ⟨bX,oX,csX,eX,rX,lX,mX,loX⟩ := hex.elemT (map_at hp) (txt_ex _);cases eX;refine .rg<|.m Z Z<|.m Z Z<|.yv (.nilCheck Z) Z<|.yv (.fieldAddr Z Fx.field85_3) Z<|.yv (.loadM Z Fx.agg56 mS (k := 3) Z Z) Z<|.yv (.cutLo Fx.sl56 Z Z (lo := 1) Z hp hexc.2.1) Z<|.yv (.nilCheck Z) Z<|.yv (.fieldAddr Z Fx.field85_3) Z<|.stH Z Z Fx.size56 Z hHS hbS (show oS + i * 6 + 3 < arS.size by omega) fun H3 e3 => ?_
      have tr : Trf H H3 := by rw [e3];exact tr_drop mS (i := 3) rfl hHS hex hp (fun G l2 h => drop_rep hp h)
      have I3 : Inv w0 H0 H3 := by rw [e3];exact I.put hbS
      refine .nl<|.bN<|.tN<|.sr<|.a Z Z<|.nt<|.rt<|.tR<|.bR<|.tR<|.tR<|.bR<|.tR<|?_
      exact Sx.ret1 (.inl rfl) rfl (.tmp rfl) fun W t => ⟨(H3,-1),.inl ⟨rfl,tr,I3⟩,rfl,t.drop⟩
     try simp only [df] at h102
     refine .gd Z Z<|.yv (.move Z) Z<|.gd Z Z<|.yv (.nilCheck Z) Z<|.gd Z Z<|.yv (.fieldAddr Z Fx.field85_0) Z<|.gd Z Z<|.yv (.loadM Z Fx.agg3 mS (k := 0) Z Z) Z<|.gd Z Z<|.yv (.eql Z Z) Z<|.gd Z Z<|.yv (.move Z) Z<|.b2 (fun h108 => ?_) (fun h108 => ?_)
     ·try simp only [dt] at h108
      refine .gd Z Z<|.yv (.move Z) Z<|.gd Z Z<|.yv (.nilCheck Z) Z<|.gd Z Z<|.yv (.fieldAddr Z Fx.field85_3) Z<|.gd Z Z<|.yv (.loadM Z Fx.agg56 mS (k := 3) Z Z) Z<|.gd Z Z<|.yv (.lenSl Fx.sl56 Z) Z<|.gd Z Z<|.yv (.gtr Z Z) Z<|.gd Z Z<|.yv (.pickT Z Z) Z<|.yv (.pickF Z Z) Z<|.nt<|.cd Z (fun h116 => ?_) (fun h116 => ?_)
      ·try simp only [dt] at h116
       have hp : 0 < ex.length := by omega
       obtain ⟨bX,oX,csX,eX,rX,lX,mX,loX⟩ := hex.elemT (map_at hp) (txt_ex _);cases eX;refine .rg<|.m Z Z<|.m Z Z<|.yv (.nilCheck Z) Z<|.yv (.fieldAddr Z Fx.field85_3) Z<|.yv (.loadM Z Fx.agg56 mS (k := 3) Z Z) Z<|.yv (.cutLo Fx.sl56 Z Z (lo := 1) Z hp hexc.2.1) Z<|.yv (.nilCheck Z) Z<|.yv (.fieldAddr Z Fx.field85_3) Z<|.stH Z Z Fx.size56 Z hHS hbS (show oS + i * 6 + 3 < arS.size by omega) fun H3 e3 => ?_
       have tr : Trf H H3 := by rw [e3];exact tr_drop mS (i := 3) rfl hHS hex hp (fun G l2 h => drop_rep hp h)
       have I3 : Inv w0 H0 H3 := by rw [e3];exact I.put hbS
       refine .nl<|.bN<|.tN<|.sr<|.a Z Z<|.nt<|.rt<|.tR<|.bR<|.tR<|.tR<|.bR<|.tR<|?_
       exact Sx.ret1 (.inl rfl) rfl (.tmp rfl) fun W t => ⟨(H3,-1),.inl ⟨rfl,tr,I3⟩,rfl,t.drop⟩
      try simp only [df] at h116
      refine .sk<|.bN<|.tN<|.sr<|.a Z Z<|.nt<|.rt<|.tR<|.bR<|.tR<|.tR<|.bR<|.tR<|?_
      exact Sx.ret1 (.inl rfl) rfl (.tmp rfl) fun W t => ⟨(H,-1),.inl ⟨rfl,trf_refl,I⟩,rfl,t.drop⟩
     try simp only [df] at h108
     refine .gF Z Z Z Z<|.gF Z Z Z Z<|.gF Z Z Z Z<|.gF Z Z Z Z<|.gF Z Z Z Z<|.gF Z Z Z Z<|.gd Z Z<|.yv (.pickF Z Z) Z<|.yv (.pickF Z Z) Z<|.nt<|.cF Z<|.sk<|.bN<|.tN<|.sr<|.a Z Z<|.nt<|.rt<|.tR<|.bR<|.tR<|.tR<|.bR<|.tR<|?_
     exact Sx.ret1 (.inl rfl) rfl (.tmp rfl) fun W t => ⟨(H,-1),.inl ⟨rfl,trf_refl,I⟩,rfl,t.drop⟩
    try simp only [df] at h94
    refine .gF Z Z Z Z<|.gF Z Z Z Z<|.gF Z Z Z Z<|.gF Z Z Z Z<|.gF Z Z Z Z<|.gF Z Z Z Z<|.yv (.pickF Z Z) Z<|.m Z Z<|.gd Z Z<|.yv (.move Z) Z<|.gd Z Z<|.yv (.nilCheck Z) Z<|.gd Z Z<|.yv (.fieldAddr Z Fx.field85_0) Z<|.gd Z Z<|.yv (.loadM Z Fx.agg3 mS (k := 0) Z Z) Z<|.gd Z Z<|.yv (.eql Z Z) Z<|.gd Z Z<|.yv (.move Z) Z<|.b2 (fun h108 => ?_) (fun h108 => ?_)
    ·try simp only [dt] at h108
     refine .gd Z Z<|.yv (.move Z) Z<|.gd Z Z<|.yv (.nilCheck Z) Z<|.gd Z Z<|.yv (.fieldAddr Z Fx.field85_3) Z<|.gd Z Z<|.yv (.loadM Z Fx.agg56 mS (k := 3) Z Z) Z<|.gd Z Z<|.yv (.lenSl Fx.sl56 Z) Z<|.gd Z Z<|.yv (.gtr Z Z) Z<|.gd Z Z<|.yv (.pickT Z Z) Z<|.yv (.pickF Z Z) Z<|.nt<|.cd Z (fun h116 => ?_) (fun h116 => ?_)
     ·try simp only [dt] at h116
      have hp : 0 < ex.length := by omega
      obtain ⟨bX,oX,csX,eX,rX,lX,mX,loX⟩ := hex.elemT (map_at hp) (txt_ex _);cases eX;refine .rg<|.m Z Z<|.m Z Z<|.yv (.nilCheck Z) Z<|.yv (.fieldAddr Z Fx.field85_3) Z<|.yv (.loadM Z Fx.agg56 mS (k := 3) Z Z) Z<|.yv (.cutLo Fx.sl56 Z Z (lo := 1) Z hp hexc.2.1) Z<|.yv (.nilCheck Z) Z<|.yv (.fieldAddr Z Fx.field85_3) Z<|.stH Z Z Fx.size56 Z hHS hbS (show oS + i * 6 + 3 < arS.size by omega) fun H3 e3 => ?_
      have tr : Trf H H3 := by rw [e3];exact tr_drop mS (i := 3) rfl hHS hex hp (fun G l2 h => drop_rep hp h)
      have I3 : Inv w0 H0 H3 := by rw [e3];exact I.put hbS
      refine .nl<|.bN<|.tN<|.sr<|.a Z Z<|.nt<|.rt<|.tR<|.bR<|.tR<|.tR<|.bR<|.tR<|?_
      exact Sx.ret1 (.inl rfl) rfl (.tmp rfl) fun W t => ⟨(H3,-1),.inl ⟨rfl,tr,I3⟩,rfl,t.drop⟩
     try simp only [df] at h116
     refine .sk<|.bN<|.tN<|.sr<|.a Z Z<|.nt<|.rt<|.tR<|.bR<|.tR<|.tR<|.bR<|.tR<|?_
     exact Sx.ret1 (.inl rfl) rfl (.tmp rfl) fun W t => ⟨(H,-1),.inl ⟨rfl,trf_refl,I⟩,rfl,t.drop⟩
    try simp only [df] at h108
    refine .gF Z Z Z Z<|.gF Z Z Z Z<|.gF Z Z Z Z<|.gF Z Z Z Z<|.gF Z Z Z Z<|.gF Z Z Z Z<|.gd Z Z<|.yv (.pickF Z Z) Z<|.yv (.pickF Z Z) Z<|.nt<|.cF Z<|.sk<|.bN<|.tN<|.sr<|.a Z Z<|.nt<|.rt<|.tR<|.bR<|.tR<|.tR<|.bR<|.tR<|?_
    exact Sx.ret1 (.inl rfl) rfl (.tmp rfl) fun W t => ⟨(H,-1),.inl ⟨rfl,trf_refl,I⟩,rfl,t.drop⟩
   try simp only [df] at h87
   refine .sr<|.yv (.eql Z Z) Z<|.a Z Z<|.nt<|.cd Z (fun h125 => ?_) (fun h125 => ?_)
   ·try simp only [dt] at h125
    refine .sr<|.m Z Z<|.yv (.nilCheck Z) Z<|.yv (.fieldAddr Z Fx.field85_3) Z<|.yv (.loadM Z Fx.agg56 mS (k := 3) Z Z) Z<|.yv (.lenSl Fx.sl56 Z) Z<|.yv (.gtr Z Z) Z<|.nt<|.cd Z (fun h132 => ?_) (fun h132 => ?_)
    ·try simp only [dt] at h132
     have hp : 0 < ex.length := by omega
     have hj : (c.k.toNat % ex.length) < ex.length := Nat.mod_lt _ hp;obtain ⟨bX,oX,csX,eX,rX,lX,mX,loX⟩ := hex.elemT (map_at hj) (txt_ex _);cases eX;generalize hxx : ex[(c.k.toNat % ex.length)] = e at rX;obtain ⟨op,nm4,n4,args⟩ := e;have rX0 := rX;obtain ⟨p7,c7,rfl,hargs,hn7⟩ := ex_open rX;obtain ⟨arX,tX,hHX,hbX,hoX⟩ := I.tgt loX mX (by simp);have hoX : oX + (c.k.toNat % ex.length) * 4 + 4 ≤ arX.size := hoX;refine .fl (trip := [(_,_,_),(_,_,_),(_,_,_),(_,_,_),(_,_,_),(_,_,_),(_,_,_),(_,_,_),(_,_,_),(_,_,_),(_,_,_),(_,_,_),(_,_,_),(_,_,_),(_,_,_),(_,_,_),(_,_,_)]) 17 [(0,0),(1,0),(2,0),(3,0),(4,0),(5,0),(6,0),(7,0),(8,0),(9,0),(10,0),(11,0),(12,0),(13,0),(14,0),(15,0),(16,0)] (by kernel_rfl) (by kernel_rfl) Z<|.m Z Z<|.yv (.nilCheck Z) Z<|.yv (.fieldAddr Z Fx.field85_3) Z<|.yv (.loadM Z Fx.agg56 mS (k := 3) Z Z) Z<|.yv (.fieldAddr Z Fx.field53_3) Z<|.yv (.load Z Fx.agg5 (.head _) Z) Z<|.yv (.conv Z Fx.int5 Fx.int3 (c := (c.k.toNat : Nat)) (by have := c.k.toNat_lt;simp only [IntKind.wrap,IntKind.signed,IntKind.bits];simp;omega)) Z<|.m Z Z<|.yv (.nilCheck Z) Z<|.yv (.fieldAddr Z Fx.field85_3) Z<|.yv (.loadM Z Fx.agg56 mS (k := 3) Z Z) Z<|.yv (.lenSl Fx.sl56 Z) Z<|.yv (.rem Z Z (by omega) (c := (((c.k.toNat % ex.length) : Nat) : Int)) (tm2 _ _)) Z<|.yv (.fieldAddr Z Fx.field53_4) Z<|.yv (.load Z Fx.agg5 (.head _) Z) Z<|.yv (.call Fx.call43 Z (fun W t => name8_any H c.nm W t.agr)) Z<|.yv (.build Z (Fx.bld58_0_1 _ _)) Z<|.fn (tl := [_,_]) Z<|.yv (.indexSl Fx.sl56 Z Z (i := (c.k.toNat % ex.length)) Z hj (q := oX + (c.k.toNat % ex.length) * 4) Z) Z<|.stHS (vs := [.int .i64 (5 : UInt8).toNat,strV (nmAt c.nm.toNat),.int .i64 (0 : Int64).toInt,.slice none 0 0]) Z Z Fx.size58 Z (by simp [Value.oneCell',strV]) hHX hbX hoX fun H3 e3 => ?_
     have tr : Trf H H3 := by rw [e3];exact tr_expr mX hn7 hHX hargs (show (nmAt c.nm.toNat).length ≤ 1000000 by have := nmAt_len c.nm.toNat;omega) (by decide) (by decide) (l := []) (.inl ⟨rfl,rfl⟩) (by decide)
     have I3 : Inv w0 H0 H3 := by rw [e3];exact I.put hbX
     refine .nl<|.bN<|.tN<|.sr<|.a Z Z<|.nt<|.rt<|.tR<|.bR<|.tR<|.tR<|.bR<|.tR<|?_
     exact Sx.ret1 (.inl rfl) rfl (.tmp rfl) fun W t => ⟨(H3,-1),.inl ⟨rfl,tr,I3⟩,rfl,t.drop⟩
    try simp only [df] at h132
    refine .sk<|.bN<|.tN<|.sr<|.a Z Z<|.nt<|.rt<|.tR<|.bR<|.tR<|.tR<|.bR<|.tR<|?_
    exact Sx.ret1 (.inl rfl) rfl (.tmp rfl) fun W t => ⟨(H,-1),.inl ⟨rfl,trf_refl,I⟩,rfl,t.drop⟩
   try simp only [df] at h125
   refine .sr<|.m Z Z<|.yv (.nilCheck Z) Z<|.yv (.fieldAddr Z Fx.field85_3) Z<|.yv (.loadM Z Fx.agg56 mS (k := 3) Z Z) Z<|.yv (.lenSl Fx.sl56 Z) Z<|.yv (.gtr Z Z) Z<|.nt<|.cd Z (fun h28 => ?_) (fun h28 => ?_)
   ·try simp only [dt] at h28
    have hp : 0 < ex.length := by omega
    have hj : (c.k.toNat % ex.length) < ex.length := Nat.mod_lt _ hp;obtain ⟨bX,oX,csX,eX,rX,lX,mX,loX⟩ := hex.elemT (map_at hj) (txt_ex _);cases eX;generalize hxx : ex[(c.k.toNat % ex.length)] = e at rX;obtain ⟨op,nm4,n4,args⟩ := e;have rX0 := rX;obtain ⟨p7,c7,rfl,hargs,hn7⟩ := ex_open rX;obtain ⟨arX,tX,hHX,hbX,hoX⟩ := I.tgt loX mX (by simp);have hoX : oX + (c.k.toNat % ex.length) * 4 + 4 ≤ arX.size := hoX;refine .fl (trip := [(_,_,_),(_,_,_),(_,_,_),(_,_,_),(_,_,_),(_,_,_),(_,_,_),(_,_,_),(_,_,_),(_,_,_),(_,_,_),(_,_,_),(_,_,_),(_,_,_),(_,_,_),(_,_,_),(_,_,_),(_,_,_),(_,_,_),(_,_,_),(_,_,_),(_,_,_),(_,_,_),(_,_,_),(_,_,_),(_,_,_),(_,_,_),(_,_,_),(_,_,_),(_,_,_),(_,_,_)]) 31 [(0,0),(1,0),(2,0),(3,0),(4,0),(5,0),(6,0),(7,0),(8,0),(9,0),(10,0),(11,0),(12,0),(13,0),(14,0),(15,0),(16,0),(17,0),(18,0),(19,0),(20,0),(21,0),(22,0),(23,0),(24,0),(25,0),(26,0),(27,0),(28,0),(29,0),(30,1)] (by kernel_rfl) (by kernel_rfl) Z<|.m Z Z<|.yv (.nilCheck Z) Z<|.yv (.fieldAddr Z Fx.field85_3) Z<|.yv (.loadM Z Fx.agg56 mS (k := 3) Z Z) Z<|.yv (.fieldAddr Z Fx.field53_3) Z<|.yv (.load Z Fx.agg5 (.head _) Z) Z<|.yv (.conv Z Fx.int5 Fx.int3 (c := (c.k.toNat : Nat)) (by have := c.k.toNat_lt;simp only [IntKind.wrap,IntKind.signed,IntKind.bits];simp;omega)) Z<|.m Z Z<|.yv (.nilCheck Z) Z<|.yv (.fieldAddr Z Fx.field85_3) Z<|.yv (.loadM Z Fx.agg56 mS (k := 3) Z Z) Z<|.yv (.lenSl Fx.sl56 Z) Z<|.yv (.rem Z Z (by omega) (c := (((c.k.toNat % ex.length) : Nat) : Int)) (tm2 _ _)) Z<|.yv (.fieldAddr Z Fx.field53_4) Z<|.yv (.load Z Fx.agg5 (.head _) Z) Z<|.m Z Z<|.yv (.nilCheck Z) Z<|.yv (.fieldAddr Z Fx.field85_3) Z<|.yv (.loadM Z Fx.agg56 mS (k := 3) Z Z) Z<|.yv (.fieldAddr Z Fx.field53_3) Z<|.yv (.load Z Fx.agg5 (.head _) Z) Z<|.yv (.conv Z Fx.int5 Fx.int3 (c := (c.k.toNat : Nat)) (by have := c.k.toNat_lt;simp only [IntKind.wrap,IntKind.signed,IntKind.bits];simp;omega)) Z<|.m Z Z<|.yv (.nilCheck Z) Z<|.yv (.fieldAddr Z Fx.field85_3) Z<|.yv (.loadM Z Fx.agg56 mS (k := 3) Z Z) Z<|.yv (.lenSl Fx.sl56 Z) Z<|.yv (.rem Z Z (by omega) (c := (((c.k.toNat % ex.length) : Nat) : Int)) (tm2 _ _)) Z<|.yv (.indexSl Fx.sl56 Z Z (i := (c.k.toNat % ex.length)) Z hj (q := oX + (c.k.toNat % ex.length) * 4) Z) Z<|.yv (.loadMW Z Fx.agg58 mX Z) Z<|.ct (X := Xp) Fx.call17 Z (fun W t => xpr_raw H c.nm _ _ rX0 W t.agr) Z fun x59 H59 hx59 u59 => .fn (tl := [_,_]) Z<|.yv (.indexSl Fx.sl56 Z Z (i := (c.k.toNat % ex.length)) Z hj (q := oX + (c.k.toNat % ex.length) * 4) Z) Z<|.stHS (vs := x59.c) Z Z Fx.size58 Z hx59.one (u59.up _ _ hHX) hbX hoX fun H3 e3 => ?_
    have hne : ∀ nb,H nb = none → nb ≠ bX := fun nb h e => by subst e;rw [hHX] at h;cases h
    have tr : Trf H H3 := by
     rw [e3];refine trf_up u59.up (tr_expr (mX.up u59.up) hn7 (u59.up _ _ hHX) (hargs.up u59.up) hx59.nm hx59.op hx59.n ?_ hx59.len);rcases hx59.at_ with h | ⟨nb,h1,h2,h3⟩
     ·exact .inl h
     ·exact .inr ⟨nb,h1,hne nb h2,h3⟩
    have I3 : Inv w0 H0 H3 := by rw [e3];exact (I.grow u59).put hbX
    refine .nl<|.bN<|.tN<|.sr<|.a Z Z<|.nt<|.rt<|.tR<|.bR<|.tR<|.tR<|.bR<|.tR<|?_
    exact Sx.ret1 (.inl rfl) rfl (.tmp rfl) fun W t => ⟨(H3,-1),.inl ⟨rfl,tr,I3⟩,rfl,t.drop⟩
   try simp only [df] at h28
   refine .sk<|.bN<|.tN<|.sr<|.a Z Z<|.nt<|.rt<|.tR<|.bR<|.tR<|.tR<|.bR<|.tR<|?_
   exact Sx.ret1 (.inl rfl) rfl (.tmp rfl) fun W t => ⟨(H,-1),.inl ⟨rfl,trf_refl,I⟩,rfl,t.drop⟩
  try simp only [df] at h15
  have hk : ¬ k = 0 := by omega
  refine .sk<|.tN<|.sq<|.fl (trip := [(_,_,_),(_,_,_),(_,_,_),(_,_,_),(_,_,_),(_,_,_),(_,_,_),(_,_,_),(_,_,_)]) 9 [(0,0),(1,0),(2,0),(3,0),(4,0),(5,0),(6,0),(7,0),(8,2)] (by kernel_rfl) (by kernel_rfl) Z<|.m Z Z<|.m Z Z<|.yv (.indexSl Fx.sl80 Z Z Z (by omega) (q := oS + i * 6) Z) Z<|.yv (.fieldAddr Z Fx.field85_4) Z<|.yv (.loadM Z Fx.agg80 mS (k := 4) Z Z) Z<|.m Z Z<|.yv (.sub Z Z (c := ((k - 1 : Nat) : Int)) ((w6 (by omega)).trans (by omega))) Z<|.yv (.loadW Z Fx.agg53 (.head _) Z) Z<|.cs (X := Hp × Int) Fx.call50 Z (fun W t => ihx.1 H W _ _ (k - 1) c I hth (by omega) t) Z fun z159 hz159 => ?_
  obtain ⟨H159,r159⟩ := z159;unfold StC at hz159;dsimp only at hz159 ⊢;refine .fn (tl := [_]) Z<|.a Z Z<|.nt<|.sq<|.sr<|.m Z Z<|.yv (.lss Z Z) Z<|.nt<|.cd Z (fun h161 => ?_) (fun h161 => ?_)
  ·try simp only [dt] at h161
   have hr := hz159.resolve_right fun h => by omega
   refine .sr<|.m Z Z<|.a Z Z<|.nt<|.rt<|.tR<|.bR<|.tR<|.tR<|.bR<|.tR<|?_
   exact Sx.ret1 (.inl rfl) rfl (.tmp rfl) fun W t => ⟨(H159,r159),.inl hr,rfl,t.drop⟩
  try simp only [df] at h161
  obtain ⟨hr0,hr1,hH⟩ := hz159.resolve_left fun h => by omega
  obtain rfl := hH.symm;obtain ⟨k2,rfl⟩ : ∃ q : Nat,r159 = (q : Int) := ⟨r159.toNat,by omega⟩;refine .sk<|.tN<|.sq<|.fl (trip := [(_,_,_),(_,_,_),(_,_,_),(_,_,_),(_,_,_),(_,_,_),(_,_,_),(_,_,_)]) 8 [(0,0),(1,0),(2,0),(3,0),(4,0),(5,0),(6,0),(7,2)] (by kernel_rfl) (by kernel_rfl) Z<|.m Z Z<|.m Z Z<|.yv (.indexSl Fx.sl80 Z Z Z (by omega) (q := oS + i * 6) Z) Z<|.yv (.fieldAddr Z Fx.field85_5) Z<|.yv (.loadM Z Fx.agg80 mS (k := 5) Z Z) Z<|.m Z Z<|.yv (.loadW Z Fx.agg53 (.head _) Z) Z<|.cs (X := Hp × Int) Fx.call50 Z (fun W t => ihx.2 H W _ _ k2 c I hel (by omega) t) Z fun z170 hz170 => ?_
  obtain ⟨H170,r170⟩ := z170;unfold StC at hz170;dsimp only at hz170 ⊢;refine .fn (tl := [_]) Z<|.a Z Z<|.ns<|.m Z Z<|.yv (.lss Z Z) Z<|.nt<|.cd Z (fun h172 => ?_) (fun h172 => ?_)
  ·try simp only [dt] at h172
   have hr := hz170.resolve_right fun h => by omega
   refine .sr<|.m Z Z<|.a Z Z<|.nt<|.rt<|.bR<|.tR<|.tR<|.bR<|.tR<|?_
   exact Sx.ret1 (.inl rfl) rfl (.tmp rfl) fun W t => ⟨(H170,r170),.inl hr,rfl,t.drop⟩
  try simp only [df] at h172
  obtain ⟨hr2,hr3,hH⟩ := hz170.resolve_left fun h => by omega
  obtain rfl := hH.symm;obtain ⟨k3,rfl⟩ : ∃ q : Nat,r170 = (q : Int) := ⟨r170.toNat,by omega⟩;exact .sk<|.bN<|.tN<|.rg<|.yv (.add Z Z (w6 (by omega))) Z<|.m Z Z<|.nt<|.ag (x := (i,k)) (i + 1,k3) ⟨rfl,rfl,trivial⟩ ⟨rfl,rfl,rfl,trivial⟩ (fun _ s => s) ⟨by dsimp only;omega,by dsimp only;omega⟩ (by dsimp only;omega)
 try simp only [df] at h12
 obtain rfl : i = l.length := by omega
 refine .ex<|.tE<|.tE<|.bE<|.tN<|.sq<|?_
 skip
 refine .rg<|.m Z Z<|.a Z Z<|.nt<|.rt<|?_
 exact Sx.ret1 (.inl rfl) rfl (.tmp rfl) fun W t => ⟨(H,(k : Nat)),.inr ⟨by omega,by omega,rfl⟩,rfl,t.drop⟩
theorem Fx.size2 : sizeN Tryz.prog 2 = Option.some 1 := by kernel_rfl
theorem Fx.size54 : sizeN Tryz.prog 54 = Option.some 1 := by kernel_rfl
theorem tr2_refl {H : Hp} : Tr2 H H := ⟨H,trf_refl,trf_refl⟩
theorem Trf.two {H H' : Hp} (t : Trf H H') : Tr2 H H' := ⟨H',t,trf_refl⟩
theorem tr2_up {H H1 H2 : Hp} (u : Up H H1) (t : Tr2 H1 H2) : Tr2 H H2 := by
 obtain ⟨K,a,b⟩ := t;exact ⟨K,trf_up u a,b⟩
theorem tmod2 {i : Int} (h : 0 ≤ i) : i.tmod 2 = i % 2 ∧ 0 ≤ i % 2 ∧ i % 2 ≤ 100 := ⟨Int.tmod_eq_emod_of_nonneg h,by omega,by omega⟩
theorem atN_le (n m : Nat) : atN n m ≤ n := by
 unfold atN
 split
 ·exact Nat.zero_le _
 ·exact Nat.mod_le _ _
set_option maxHeartbeats 8000000 in
set_option maxRecDepth 100000 in
theorem apply8_st {w0 : World} {H0 H : Hp} {W : World} {bs : List Res} {f : Ft} {cs : List Value} {M D : Nat} (c : Chg) (I : Inv w0 H0 H) (h : Rep H (dFt .i64 f) cs) (hp : posF f) (hb : bndF M D f) (hM : M ≤ 1000) (s : St H w0 bs W) :
 Calls Tryz.prog 23 #[.agg cs.toArray,.agg (cChg c).toArray] W fun e W' => ∃ z : Hp,(Tr2 H z ∧ Inv w0 H0 z) ∧ e = .returned (.tuple #[]) ∧ St z w0 bs W' := by
 obtain ⟨q1,d1,q2,d2,q3,d3,rfl,hn,h1,h2,h3⟩ := ft_open h;have hc1 := h1.cap;have hc2 := h2.cap;have hc3 := h3.cap;refine Sx.enterS Tryz.func23 rfl Tryz.ntmps23 rfl s ?_;refine .sr<|.bx Z Z Z fun b2 => .bx Z Z Z fun b3 => .ns<|.yv (.fieldAddr Z Fx.field53_1) Z<|.yv (.load Z Fx.agg5 (.head _) Z) Z<|.yv (.fieldAddr Z Fx.field31_3) Z<|.yv (.load Z Fx.agg29 (.tail _<|.head _) Z) Z<|.yv (.lenSl Fx.sl29 Z) Z<|.yv (.call Fx.call42 Z (fun W t => at8_any H c.i f.comps.length W t.agr)) Z<|.a Z Z<|.nt<|.sq<|?_
 obtain ⟨i1,hi1⟩ : ∃ q,q = atN c.i.toNat f.comps.length := ⟨_,rfl⟩;rw [← hi1];have hi : i1 < f.comps.length := by rw [hi1];exact atN_lt hp.1
 obtain ⟨bC,oC,csC,eC,rC,lC,mC,loC,aC⟩ := h3.elemA (map_at hi) rfl;cases eC;have hpC := hp.2 _ (List.getElem_mem hi);have hbC0 := hb.all _ (List.getElem_mem hi);generalize f.comps[i1] = cp at rC hpC hbC0;obtain ⟨q4,d4,q5,d5,rfl,nmC,hvC,hsC⟩ := cp_open rC;obtain ⟨arC,tC,hHC,hbC,hoC⟩ := I.tgt loC mC (by simp);have hoC : oC + i1 * 3 + 3 ≤ arC.size := hoC;have hcv := hvC.cap;have hcs := hsC.cap;refine .rg<|.yv (.fieldAddr Z Fx.field31_3) Z<|.yv (.load Z Fx.agg29 (.tail _<|.head _) Z) Z<|.m Z Z<|.yv (.indexSl Fx.sl29 Z Z (i := i1) Z hi (q := oC + i1 * 3) Z) Z<|.yv (.loadMW Z Fx.agg78 mC Z) Z<|.al Fx.zero78 Z fun b5 => .sW .head Z Z Fx.size78 (by simp [Value.oneCell',strV]) Z<|.ns<|.yv (.fieldAddr Z Fx.field53_2) Z<|.yv (.load Z Fx.agg5 (.tail _<|.head _) Z) Z<|.yv (.fieldAddr Z Fx.field78_2) Z<|.yv (.load Z Fx.agg76 (.head _) Z) Z<|.yv (.lenSl Fx.sl76 Z) Z<|.yv (.call Fx.call42 Z (fun W t => at8_any H c.j cp.vers.length W t.agr)) Z<|.a Z Z<|.nt<|.sq<|?_
 obtain ⟨i2,hi2⟩ : ∃ q,q = atN c.j.toNat cp.vers.length := ⟨_,rfl⟩;rw [← hi2];have hv2 : i2 < cp.vers.length := by rw [hi2];exact atN_lt hpC.2.1
 obtain ⟨bV,oV,csV,eV,rV,lV,mV⟩ := hsC.elem (map_at hv2);cases eV;have hvn := hpC.2.2 _ (List.getElem_mem hv2);have hvb := hbC0.all _ (List.getElem_mem hv2);generalize cp.vers[i2] = vv at rV hvn hvb;obtain ⟨q6,d6,rfl,hhd⟩ := vs_open rV;have hcv2 := hhd.cap;obtain ⟨i3,hi3⟩ : ∃ q,q = atN (c.j.toNat / 4) vv.length := ⟨_,rfl⟩;have hh3 : i3 < vv.length := by rw [hi3];exact atN_lt (List.length_pos_iff.2 hvn)
 obtain ⟨bH,oH,csH,eH,rH,lH,mH,loH,aH⟩ := hhd.elemA (map_at hh3) rfl;cases eH;have hbH0 := hvb.2 _ (List.getElem_mem hh3);generalize vv[i3] = hd at rH hbH0;obtain ⟨q7,d7,q8,d8,rfl,nmH,hps,hbd⟩ := hd_openP rH;obtain ⟨arH,tH,hHH,hbH,hoH⟩ := I.tgt loH mH (by simp);have hoH : oH + i3 * 3 + 3 ≤ arH.size := hoH;have hpcap := (dPs_seq hps).cap;have hbcap := hbd.cap;refine .fl (trip := [(_,_,_),(_,_,_),(_,_,_),(_,_,_),(_,_,_),(_,_,_),(_,_,_),(_,_,_),(_,_,_),(_,_,_)]) 10 [(0,0),(1,0),(2,0),(3,0),(4,0),(5,0),(6,0),(7,0),(8,0),(9,0)] (by kernel_rfl) (by kernel_rfl) Z<|.yv (.fieldAddr Z Fx.field53_2) Z<|.yv (.load Z Fx.agg5 (.tail _<|.head _) Z) Z<|.yv (.quo Z Z (by decide) (c := ((c.j.toNat / 4 : Nat) : Int)) (qu8 _ c.j.toNat_lt (by decide))) Z<|.yv (.fieldAddr Z Fx.field78_2) Z<|.yv (.load Z Fx.agg76 (.head _) Z) Z<|.m Z Z<|.yv (.indexSl Fx.sl76 Z Z (i := i2) Z hv2 (q := oV + i2 * 1) Z) Z<|.yv (.loadM Z Fx.agg79 mV (k := 0) Z Z) Z<|.yv (.lenSl Fx.sl79 Z) Z<|.yv (.cast (v' := .int .i64 (i3 : Nat)) (.call Fx.call42 Z (fun W s => by have := at8_any H (UInt8.ofNat (c.j.toNat / 4)) vv.length W s.agr;rw [u8q4] at this;exact this)) (by rw [hi3])) Z<|.fn (tl := [_]) Z<|.a Z Z<|.ns<|.yv (.fieldAddr Z Fx.field53_0) Z<|.yv (.load Z Fx.agg5 (.tail _<|.head _) Z) Z<|.yv (.rem Z Z (by decide) (c := ((c.wh.toNat % 10 : Nat) : Int)) (tm2 _ 10)) Z<|.nt<|.bk<|.sr<|.yv (.eql Z Z) Z<|.a Z Z<|.nt<|.cd Z (fun h67 => ?_) (fun h67 => ?_)
 ·try simp only [dt] at h67
  refine .sr<|.yv (.fieldAddr Z Fx.field31_1) Z<|.yv (.load Z Fx.agg27 (.tail _<|.tail _<|.head _) Z) Z<|.yv (.lenSl Fx.sl27 Z) Z<|.yv (.gtr Z Z) Z<|.nt<|.cd Z (fun h72 => ?_) (fun h72 => ?_)
  ·try simp only [dt] at h72
   have hf0 : 0 < f.flags.length := by omega
   obtain ⟨j1,hj1⟩ : ∃ q,q = atN c.k.toNat f.flags.length := ⟨_,rfl⟩;have hj : j1 < f.flags.length := by rw [hj1];exact atN_lt hf0
   obtain ⟨bF,oF,csF,eF,rF,lF,mF,loF,aF⟩ := h1.elemA (map_at hj) rfl;cases eF;obtain ⟨rfl,nmF⟩ := fg_open rF;obtain ⟨arF,tF,hHF,hbF,hoF⟩ := I.tgt loF mF (by simp);have hoF : oF + j1 * 2 + 2 ≤ arF.size := hoF;refine .fl (trip := [(_,_,_),(_,_,_),(_,_,_),(_,_,_),(_,_,_),(_,_,_),(_,_,_),(_,_,_),(_,_,_),(_,_,_),(_,_,_)]) 11 [(0,0),(1,0),(2,0),(3,0),(4,0),(5,0),(6,0),(7,0),(8,0),(9,0),(10,0)] (by kernel_rfl) (by kernel_rfl) Z<|.yv (.fieldAddr Z Fx.field31_1) Z<|.yv (.load Z Fx.agg27 (.tail _<|.tail _<|.head _) Z) Z<|.yv (.fieldAddr Z Fx.field53_3) Z<|.yv (.load Z Fx.agg5 (.tail _<|.head _) Z) Z<|.yv (.fieldAddr Z Fx.field31_1) Z<|.yv (.load Z Fx.agg27 (.tail _<|.tail _<|.head _) Z) Z<|.yv (.lenSl Fx.sl27 Z) Z<|.yv (.cast (v' := .int .i64 (j1 : Nat)) (.call Fx.call42 Z (fun W t => at8_any H c.k f.flags.length W t.agr)) (by rw [hj1])) Z<|.yv (.fieldAddr Z Fx.field53_4) Z<|.yv (.load Z Fx.agg5 (.tail _<|.head _) Z) Z<|.yv (.call Fx.call43 Z (fun W t => name8_any H c.nm W t.agr)) Z<|.fn (tl := [_,_,_]) Z<|.yv (.indexSl Fx.sl27 Z Z (i := j1) Z hj (q := oF + j1 * 2) Z) Z<|.yv (.fieldAddr Z Fx.field88_0) Z<|.stH Z Z Fx.size9 Z hHF hbF (show oF + j1 * 2 + 0 < arF.size by omega) fun H3 e3 => ?_
   have tr : Tr2 H H3 := by rw [e3];exact (tr_str mF (i := 0) rfl hHF (show (nmAt c.nm.toNat).length ≤ 1000000 by have := nmAt_len c.nm.toNat;omega)).two
   have I3 : Inv w0 H0 H3 := by rw [e3];exact I.put hbF
   refine .nl<|.bN<|?_
   exact Sx.retN (.inr rfl) rfl .nil rfl fun W t => ⟨H3,⟨tr,I3⟩,rfl,t.drop.drop.drop⟩
  try simp only [df] at h72
  refine .sk<|.bN<|?_
  exact Sx.retN (.inr rfl) rfl .nil rfl fun W t => ⟨H,⟨tr2_refl,I⟩,rfl,t.drop.drop.drop⟩
 try simp only [df] at h67
 refine .sr<|.yv (.eql Z Z) Z<|.a Z Z<|.nt<|.cd Z (fun h86 => ?_) (fun h86 => ?_)
 ·try simp only [dt] at h86
  refine .sr<|.yv (.fieldAddr Z Fx.field31_2) Z<|.yv (.load Z Fx.agg28 (.tail _<|.tail _<|.head _) Z) Z<|.yv (.lenSl Fx.sl28 Z) Z<|.yv (.gtr Z Z) Z<|.nt<|.cd Z (fun h91 => ?_) (fun h91 => ?_)
  ·try simp only [dt] at h91
   have hf0 : 0 < f.links.length := by omega
   refine .sq<|?_
   obtain ⟨j1,hj1⟩ : ∃ q,q = atN c.k.toNat f.links.length := ⟨_,rfl⟩;have hj : j1 < f.links.length := by rw [hj1];exact atN_lt hf0
   obtain ⟨bF,oF,csF,eF,rF,lF,mF,loF,aF⟩ := h2.elemA (map_at hj) rfl;cases eF;obtain ⟨rfl,nmF,nmG⟩ := lk_open rF;obtain ⟨arF,tF,hHF,hbF,hoF⟩ := I.tgt loF mF (by simp);have hoF : oF + j1 * 3 + 3 ≤ arF.size := hoF;refine .fl (trip := [(_,_,_),(_,_,_),(_,_,_),(_,_,_),(_,_,_),(_,_,_),(_,_,_),(_,_,_),(_,_,_)]) 9 [(0,0),(1,0),(2,0),(3,0),(4,0),(5,0),(6,0),(7,0),(8,0)] (by kernel_rfl) (by kernel_rfl) Z<|.yv (.fieldAddr Z Fx.field31_2) Z<|.yv (.load Z Fx.agg28 (.tail _<|.tail _<|.head _) Z) Z<|.yv (.fieldAddr Z Fx.field53_3) Z<|.yv (.load Z Fx.agg5 (.tail _<|.head _) Z) Z<|.yv (.fieldAddr Z Fx.field31_2) Z<|.yv (.load Z Fx.agg28 (.tail _<|.tail _<|.head _) Z) Z<|.yv (.lenSl Fx.sl28 Z) Z<|.yv (.cast (v' := .int .i64 (j1 : Nat)) (.call Fx.call42 Z (fun W t => at8_any H c.k f.links.length W t.agr)) (by rw [hj1])) Z<|.yv (.indexSl Fx.sl28 Z Z (i := j1) Z hj (q := oF + j1 * 3) Z) Z<|.fn (tl := [_]) Z<|.a Z Z<|.ns<|.yv (.fieldAddr Z Fx.field53_2) Z<|.yv (.load Z Fx.agg5 (.tail _<|.head _) Z) Z<|.yv (.rem Z Z (by decide) (c := ((c.j.toNat % 2 : Nat) : Int)) (tm2 _ 2)) Z<|.yv (.eql Z Z) Z<|.nt<|.cd Z (fun h104 => ?_) (fun h104 => ?_)
   ·try simp only [dt] at h104
    refine .rg<|.m Z Z<|.yv (.fieldAddr Z Fx.field53_4) Z<|.yv (.load Z Fx.agg5 (.tail _<|.head _) Z) Z<|.yv (.call Fx.call43 Z (fun W t => name8_any H c.nm W t.agr)) Z<|.yv (.nilCheck Z) Z<|.yv (.fieldAddr Z Fx.field91_0) Z<|.stH Z Z Fx.size9 Z hHF hbF (show oF + j1 * 3 + 0 < arF.size by omega) fun H3 e3 => ?_
    have tr : Tr2 H H3 := by rw [e3];exact (tr_str mF (i := 0) rfl hHF (show (nmAt c.nm.toNat).length ≤ 1000000 by have := nmAt_len c.nm.toNat;omega)).two
    have I3 : Inv w0 H0 H3 := by rw [e3];exact I.put hbF
    refine .nl<|.bN<|?_
    exact Sx.retN (.inr rfl) rfl .nil rfl fun W t => ⟨H3,⟨tr,I3⟩,rfl,t.drop.drop.drop⟩
   try simp only [df] at h104
   refine .rg<|.m Z Z<|.yv (.fieldAddr Z Fx.field53_4) Z<|.yv (.load Z Fx.agg5 (.tail _<|.head _) Z) Z<|.yv (.call Fx.call43 Z (fun W t => name8_any H c.nm W t.agr)) Z<|.yv (.nilCheck Z) Z<|.yv (.fieldAddr Z Fx.field91_1) Z<|.stH Z Z Fx.size9 Z hHF hbF (show oF + j1 * 3 + 1 < arF.size by omega) fun H3 e3 => ?_
   have tr : Tr2 H H3 := by rw [e3];exact (tr_str mF (i := 1) rfl hHF (show (nmAt c.nm.toNat).length ≤ 1000000 by have := nmAt_len c.nm.toNat;omega)).two
   have I3 : Inv w0 H0 H3 := by rw [e3];exact I.put hbF
   refine .nl<|.bN<|?_
   exact Sx.retN (.inr rfl) rfl .nil rfl fun W t => ⟨H3,⟨tr,I3⟩,rfl,t.drop.drop.drop⟩
  try simp only [df] at h91
  refine .sk<|.bN<|?_
  exact Sx.retN (.inr rfl) rfl .nil rfl fun W t => ⟨H,⟨tr2_refl,I⟩,rfl,t.drop.drop.drop⟩
 try simp only [df] at h86
 refine .sr<|.yv (.eql Z Z) Z<|.a Z Z<|.nt<|.cd Z (fun h117 => ?_) (fun h117 => ?_)
 ·try simp only [dt] at h117
  refine .fl (trip := [(_,_,_),(_,_,_),(_,_,_),(_,_,_),(_,_,_),(_,_,_)]) 6 [(0,0),(1,0),(2,0),(3,0),(4,0),(5,0)] (by kernel_rfl) (by kernel_rfl) Z<|.yv (.fieldAddr Z Fx.field31_3) Z<|.yv (.load Z Fx.agg29 (.tail _<|.tail _<|.head _) Z) Z<|.m Z Z<|.yv (.fieldAddr Z Fx.field53_4) Z<|.yv (.load Z Fx.agg5 (.tail _<|.head _) Z) Z<|.yv (.call Fx.call43 Z (fun W t => name8_any H c.nm W t.agr)) Z<|.fn (tl := [_,_,_]) Z<|.yv (.indexSl Fx.sl29 Z Z (i := i1) Z hi (q := oC + i1 * 3) Z) Z<|.yv (.fieldAddr Z Fx.field78_0) Z<|.stH Z Z Fx.size9 Z hHC hbC (show oC + i1 * 3 + 0 < arC.size by omega) fun H3 e3 => ?_
  have tr : Tr2 H H3 := by rw [e3];exact (tr_str mC (i := 0) rfl hHC (show (nmAt c.nm.toNat).length ≤ 1000000 by have := nmAt_len c.nm.toNat;omega)).two
  have I3 : Inv w0 H0 H3 := by rw [e3];exact I.put hbC
  refine .nl<|.bN<|?_
  exact Sx.retN (.inr rfl) rfl .nil rfl fun W t => ⟨H3,⟨tr,I3⟩,rfl,t.drop.drop.drop⟩
 try simp only [df] at h117
 refine .sr<|.yv (.eql Z Z) Z<|.a Z Z<|.nt<|.cd Z (fun h127 => ?_) (fun h127 => ?_)
 ·try simp only [dt] at h127
  refine .sq<|?_
  obtain ⟨j1,hj1⟩ : ∃ q,q = atN c.k.toNat cp.vars.length := ⟨_,rfl⟩;have hj : j1 < cp.vars.length := by rw [hj1];exact atN_lt hpC.1
  obtain ⟨bF,oF,csF,eF,rF,lF,mF,loF,aF⟩ := hvC.elemA (map_at hj) rfl;cases eF;have hin := hbC0.ini _ (List.getElem_mem hj);generalize cp.vars[j1] = vr at rF hin;obtain ⟨rfl,nmF⟩ := vr_open rF;obtain ⟨arF,tF,hHF,hbF,hoF⟩ := I.tgt loF mF (by simp);have hoF : oF + j1 * 3 + 3 ≤ arF.size := hoF;refine .fl (trip := [(_,_,_),(_,_,_),(_,_,_),(_,_,_),(_,_,_),(_,_,_),(_,_,_),(_,_,_),(_,_,_)]) 9 [(0,0),(1,0),(2,0),(3,0),(4,0),(5,0),(6,0),(7,0),(8,0)] (by kernel_rfl) (by kernel_rfl) Z<|.yv (.fieldAddr Z Fx.field78_1) Z<|.yv (.load Z Fx.agg75 (.head _) Z) Z<|.yv (.fieldAddr Z Fx.field53_3) Z<|.yv (.load Z Fx.agg5 (.tail _<|.head _) Z) Z<|.yv (.fieldAddr Z Fx.field78_1) Z<|.yv (.load Z Fx.agg75 (.head _) Z) Z<|.yv (.lenSl Fx.sl75 Z) Z<|.yv (.cast (v' := .int .i64 (j1 : Nat)) (.call Fx.call42 Z (fun W t => at8_any H c.k cp.vars.length W t.agr)) (by rw [hj1])) Z<|.yv (.indexSl Fx.sl75 Z Z (i := j1) Z hj (q := oF + j1 * 3) Z) Z<|.fn (tl := [_]) Z<|.a Z Z<|.ns<|.yv (.fieldAddr Z Fx.field53_2) Z<|.yv (.load Z Fx.agg5 (.tail _<|.head _) Z) Z<|.yv (.rem Z Z (by decide) (c := ((c.j.toNat % 2 : Nat) : Int)) (tm2 _ 2)) Z<|.yv (.eql Z Z) Z<|.nt<|.cd Z (fun h141 => ?_) (fun h141 => ?_)
  ·try simp only [dt] at h141
   refine .rg<|.m Z Z<|.yv (.fieldAddr Z Fx.field53_4) Z<|.yv (.load Z Fx.agg5 (.tail _<|.head _) Z) Z<|.yv (.call Fx.call43 Z (fun W t => name8_any H c.nm W t.agr)) Z<|.yv (.nilCheck Z) Z<|.yv (.fieldAddr Z Fx.field98_0) Z<|.stH Z Z Fx.size9 Z hHF hbF (show oF + j1 * 3 + 0 < arF.size by omega) fun H3 e3 => ?_
   have tr : Tr2 H H3 := by rw [e3];exact (tr_str mF (i := 0) rfl hHF (show (nmAt c.nm.toNat).length ≤ 1000000 by have := nmAt_len c.nm.toNat;omega)).two
   have I3 : Inv w0 H0 H3 := by rw [e3];exact I.put hbF
   refine .nl<|.bN<|?_
   exact Sx.retN (.inr rfl) rfl .nil rfl fun W t => ⟨H3,⟨tr,I3⟩,rfl,t.drop.drop.drop⟩
  try simp only [df] at h141
  refine .sr<|.yv (.fieldAddr Z Fx.field53_2) Z<|.yv (.load Z Fx.agg5 (.tail _<|.head _) Z) Z<|.yv (.quo Z Z (by decide) (c := ((c.j.toNat / 2 : Nat) : Int)) (qu8 _ c.j.toNat_lt (by decide))) Z<|.yv (.rem Z Z (by decide) (c := ((c.j.toNat / 2 % 3 : Nat) : Int)) (tm2 _ 3)) Z<|.yv (.eql Z Z) Z<|.m Z Z<|.b2 (fun h153 => ?_) (fun h153 => ?_)
  ·try simp only [dt] at h153
   refine .gF Z Z Z Z<|.gF Z Z Z Z<|.gF Z Z Z Z<|.gF Z Z Z Z<|.gF Z Z Z Z<|.yv (.pickT Z Z) Z<|.nt<|.cT Z<|.rg<|.m Z Z<|.m Z Z<|.yv (.fieldAddr Z Fx.field53_2) Z<|.yv (.load Z Fx.agg5 (.tail _<|.head _) Z) Z<|.yv (.quo Z Z (by decide) (c := ((c.j.toNat / 2 : Nat) : Int)) (qu8 _ c.j.toNat_lt (by decide))) Z<|.yv (.rem Z Z (by decide) (c := ((c.j.toNat / 2 % 3 : Nat) : Int)) (tm2 _ 3)) Z<|.yv (.conv Z Fx.int5 Fx.int3 (c := ((c.j.toNat / 2 % 3 : Nat) : Int)) (by simp only [IntKind.wrap,IntKind.signed,IntKind.bits];simp;omega)) Z<|.yv (.add Z Z (c := ((1 + c.j.toNat / 2 % 3 : Nat) : Int)) ((w6 (by omega)).trans (by omega))) Z<|.yv (.nilCheck Z) Z<|.yv (.fieldAddr Z Fx.field98_1) Z<|.stH Z Z Fx.size3 Z hHF hbF (show oF + j1 * 3 + 1 < arF.size by omega) fun H3 e3 => ?_
   have hH3 : H3 bF = some (.cells (arF.setIfInBounds (oF + j1 * 3 + 1) (.int .i64 ((1 + c.j.toNat / 2 % 3 : Nat) : Int))) tF (0,0)) := by rw [e3];exact putH_at
   have m3 : MemAt H3 bF (oF + j1 * 3 + 2) [.int .i64 vr.init.toInt] := by rw [e3];exact memAt_put_ne mF hHF (i := 1) (j := 2) rfl (by decide)
   have I30 : Inv w0 H0 H3 := by rw [e3];exact I.put hbF
   have t30 : Trf H H3 := by rw [e3];exact tr_int mF (i := 1) rfl hHF (by omega) (by omega)
   refine .yv (.nilCheck Z) Z<|.yv (.fieldAddr Z Fx.field98_2) Z<|.stH Z Z Fx.size2 Z hH3 hbF (by rw [Array.size_setIfInBounds];omega) fun H4 e4 => ?_
   have tr : Tr2 H H4 := ⟨H3,t30,by rw [e4];exact tr_int m3 (i := 0) rfl hH3 (by decide) (by decide)⟩;have I4 : Inv w0 H0 H4 := by rw [e4];exact I30.put hbF
   refine .nl<|.bN<|?_
   exact Sx.retN (.inr rfl) rfl .nil rfl fun W t => ⟨H4,⟨tr,I4⟩,rfl,t.drop.drop.drop⟩
  try simp only [df] at h153
  refine .gd Z Z<|.yv (.move Z) Z<|.gd Z Z<|.yv (.nilCheck Z) Z<|.gd Z Z<|.yv (.fieldAddr Z Fx.field98_1) Z<|.gd Z Z<|.yv (.loadM Z Fx.agg3 mF (k := 1) Z Z) Z<|.gd Z Z<|.yv (.eql Z Z) Z<|.yv (.pickF Z Z) Z<|.nt<|.cd Z (fun h159 => ?_) (fun h159 => ?_)
  ·try simp only [dt] at h159
   refine .rg<|.m Z Z<|.m Z Z<|.yv (.fieldAddr Z Fx.field53_2) Z<|.yv (.load Z Fx.agg5 (.tail _<|.head _) Z) Z<|.yv (.quo Z Z (by decide) (c := ((c.j.toNat / 2 : Nat) : Int)) (qu8 _ c.j.toNat_lt (by decide))) Z<|.yv (.rem Z Z (by decide) (c := ((c.j.toNat / 2 % 3 : Nat) : Int)) (tm2 _ 3)) Z<|.yv (.conv Z Fx.int5 Fx.int3 (c := ((c.j.toNat / 2 % 3 : Nat) : Int)) (by simp only [IntKind.wrap,IntKind.signed,IntKind.bits];simp;omega)) Z<|.yv (.add Z Z (c := ((1 + c.j.toNat / 2 % 3 : Nat) : Int)) ((w6 (by omega)).trans (by omega))) Z<|.yv (.nilCheck Z) Z<|.yv (.fieldAddr Z Fx.field98_1) Z<|.stH Z Z Fx.size3 Z hHF hbF (show oF + j1 * 3 + 1 < arF.size by omega) fun H3 e3 => ?_
   have hH3 : H3 bF = some (.cells (arF.setIfInBounds (oF + j1 * 3 + 1) (.int .i64 ((1 + c.j.toNat / 2 % 3 : Nat) : Int))) tF (0,0)) := by rw [e3];exact putH_at
   have m3 : MemAt H3 bF (oF + j1 * 3 + 2) [.int .i64 vr.init.toInt] := by rw [e3];exact memAt_put_ne mF hHF (i := 1) (j := 2) rfl (by decide)
   have I30 : Inv w0 H0 H3 := by rw [e3];exact I.put hbF
   have t30 : Trf H H3 := by rw [e3];exact tr_int mF (i := 1) rfl hHF (by omega) (by omega)
   refine .yv (.nilCheck Z) Z<|.yv (.fieldAddr Z Fx.field98_2) Z<|.stH Z Z Fx.size2 Z hH3 hbF (by rw [Array.size_setIfInBounds];omega) fun H4 e4 => ?_
   have tr : Tr2 H H4 := ⟨H3,t30,by rw [e4];exact tr_int m3 (i := 0) rfl hH3 (by decide) (by decide)⟩;have I4 : Inv w0 H0 H4 := by rw [e4];exact I30.put hbF
   refine .nl<|.bN<|?_
   exact Sx.retN (.inr rfl) rfl .nil rfl fun W t => ⟨H4,⟨tr,I4⟩,rfl,t.drop.drop.drop⟩
  try simp only [df] at h159
  refine .fl (trip := [(_,_,_),(_,_,_),(_,_,_),(_,_,_),(_,_,_),(_,_,_),(_,_,_),(_,_,_),(_,_,_),(_,_,_),(_,_,_),(_,_,_),(_,_,_),(_,_,_),(_,_,_),(_,_,_),(_,_,_),(_,_,_)]) 18 [(0,0),(1,0),(2,0),(3,0),(4,0),(5,0),(6,0),(7,0),(8,0),(9,0),(10,0),(11,0),(12,0),(13,0),(14,0),(15,3),(16,0),(17,0)] (by kernel_rfl) (by kernel_rfl) Z<|.m Z Z<|.m Z Z<|.yv (.fieldAddr Z Fx.field53_2) Z<|.yv (.load Z Fx.agg5 (.tail _<|.head _) Z) Z<|.yv (.quo Z Z (by decide) (c := ((c.j.toNat / 2 : Nat) : Int)) (qu8 _ c.j.toNat_lt (by decide))) Z<|.yv (.rem Z Z (by decide) (c := ((c.j.toNat / 2 % 3 : Nat) : Int)) (tm2 _ 3)) Z<|.yv (.conv Z Fx.int5 Fx.int3 (c := ((c.j.toNat / 2 % 3 : Nat) : Int)) (by simp only [IntKind.wrap,IntKind.signed,IntKind.bits];simp;omega)) Z<|.yv (.add Z Z (c := ((1 + c.j.toNat / 2 % 3 : Nat) : Int)) ((w6 (by omega)).trans (by omega))) Z<|.m Z Z<|.yv (.nilCheck Z) Z<|.yv (.fieldAddr Z Fx.field98_2) Z<|.yv (.loadM Z Fx.agg2 mF (k := 2) Z Z) Z<|.yv (.rem Z Z (by decide) (c := vr.init.toInt % 2) (tmod2 hin).1) Z<|.yv (.nilCheck Z) Z<|.yv (.fieldAddr Z Fx.field98_1) Z<|.stH Z Z Fx.size3 Z hHF hbF (show oF + j1 * 3 + 1 < arF.size by omega) (fun H3 e3 => (.done (by kernel_rfl)<|.done (by kernel_rfl)<|.yv (.rem Z Z (by decide) (c := vr.init.toInt % 2) (tmod2 hin).1)<|.done (by kernel_rfl)<|.done (by kernel_rfl)<|.done (by kernel_rfl)<|.done (by kernel_rfl)<|.done (by kernel_rfl)<|.done (by kernel_rfl)<|.done (by kernel_rfl)<|.done (by kernel_rfl)<|.done (by kernel_rfl)<|.done (by kernel_rfl)<|.yv (.move Z)<|.done (by kernel_rfl)<|.nl)) fun H3 e3 => ?_
  have hH3 : H3 bF = some (.cells (arF.setIfInBounds (oF + j1 * 3 + 1) (.int .i64 ((1 + c.j.toNat / 2 % 3 : Nat) : Int))) tF (0,0)) := by rw [e3];exact putH_at
  have m3 : MemAt H3 bF (oF + j1 * 3 + 2) [.int .i64 vr.init.toInt] := by rw [e3];exact memAt_put_ne mF hHF (i := 1) (j := 2) rfl (by decide)
  have I30 : Inv w0 H0 H3 := by rw [e3];exact I.put hbF
  have t30 : Trf H H3 := by rw [e3];exact tr_int mF (i := 1) rfl hHF (by omega) (by omega)
  refine .yv (.nilCheck Z) Z<|.yv (.fieldAddr Z Fx.field98_2) Z<|.fn (tl := [_]) Z<|.stH Z Z Fx.size2 Z hH3 hbF (by rw [Array.size_setIfInBounds];omega) fun H4 e4 => ?_
  have tr : Tr2 H H4 := ⟨H3,t30,by rw [e4];exact tr_int m3 (i := 0) rfl hH3 (tmod2 hin).2.1 (tmod2 hin).2.2⟩;have I4 : Inv w0 H0 H4 := by rw [e4];exact I30.put hbF
  refine .nl<|.bN<|?_
  exact Sx.retN (.inr rfl) rfl .nil rfl fun W t => ⟨H4,⟨tr,I4⟩,rfl,t.drop.drop.drop⟩
 try simp only [df] at h127
 refine .sr<|.yv (.eql Z Z) Z<|.a Z Z<|.nt<|.cd Z (fun h189 => ?_) (fun h189 => ?_)
 ·try simp only [dt] at h189
  refine .fl (trip := [(_,_,_),(_,_,_),(_,_,_),(_,_,_),(_,_,_),(_,_,_),(_,_,_),(_,_,_),(_,_,_)]) 9 [(0,0),(1,0),(2,0),(3,0),(4,0),(5,0),(6,0),(7,0),(8,0)] (by kernel_rfl) (by kernel_rfl) Z<|.yv (.fieldAddr Z Fx.field78_2) Z<|.yv (.load Z Fx.agg76 (.head _) Z) Z<|.m Z Z<|.yv (.indexSl Fx.sl76 Z Z (i := i2) Z hv2 (q := oV + i2 * 1) Z) Z<|.yv (.loadM Z Fx.agg79 mV (k := 0) Z Z) Z<|.m Z Z<|.yv (.fieldAddr Z Fx.field53_4) Z<|.yv (.load Z Fx.agg5 (.tail _<|.head _) Z) Z<|.yv (.call Fx.call43 Z (fun W t => name8_any H c.nm W t.agr)) Z<|.fn (tl := [_,_,_]) Z<|.yv (.indexSl Fx.sl79 Z Z (i := i3) Z hh3 (q := oH + i3 * 3) Z) Z<|.yv (.fieldAddr Z Fx.field82_0) Z<|.stH Z Z Fx.size9 Z hHH hbH (show oH + i3 * 3 + 0 < arH.size by omega) fun H3 e3 => ?_
  have tr : Tr2 H H3 := by rw [e3];exact (tr_str mH (i := 0) rfl hHH (show (nmAt c.nm.toNat).length ≤ 1000000 by have := nmAt_len c.nm.toNat;omega)).two
  have I3 : Inv w0 H0 H3 := by rw [e3];exact I.put hbH
  refine .nl<|.bN<|?_
  exact Sx.retN (.inr rfl) rfl .nil rfl fun W t => ⟨H3,⟨tr,I3⟩,rfl,t.drop.drop.drop⟩
 try simp only [df] at h189
 refine .sr<|.yv (.eql Z Z) Z<|.a Z Z<|.nt<|.cd Z (fun h202 => ?_) (fun h202 => ?_)
 ·try simp only [dt] at h202
  refine .sr<|.yv (.fieldAddr Z Fx.field78_2) Z<|.yv (.load Z Fx.agg76 (.head _) Z) Z<|.m Z Z<|.yv (.indexSl Fx.sl76 Z Z (i := i2) Z hv2 (q := oV + i2 * 1) Z) Z<|.yv (.loadM Z Fx.agg79 mV (k := 0) Z Z) Z<|.m Z Z<|.yv (.indexSl Fx.sl79 Z Z (i := i3) Z hh3 (q := oH + i3 * 3) Z) Z<|.a Z Z<|.ns<|.m Z Z<|.yv (.nilCheck Z) Z<|.yv (.fieldAddr Z Fx.field82_1) Z<|.yv (.loadM Z Fx.agg54 mH (k := 1) Z Z) Z<|.yv (.lenSl Fx.sl54 Z) Z<|.yv (.gtr Z Z) Z<|.m Z Z<|.b2 (fun h217 => ?_) (fun h217 => ?_)
  ·try simp only [dt] at h217
   have hp0 : 0 < hd.ps.length := by omega
   refine .gd Z Z<|.yv (.fieldAddr Z Fx.field53_3) Z<|.gd Z Z<|.yv (.load Z Fx.agg5 (.tail _<|.head _) Z) Z<|.gd Z Z<|.yv (.rem Z Z (by decide) (c := ((c.k.toNat % 3 : Nat) : Int)) (tm2 _ 3)) Z<|.gd Z Z<|.yv (.gtr Z Z) Z<|.yv (.pickT Z Z) Z<|.nt<|.cd Z (fun h222 => ?_) (fun h222 => ?_)
   ·try simp only [dt] at h222
    obtain ⟨j1,hj1⟩ : ∃ q,q = atN c.k.toNat hd.ps.length := ⟨_,rfl⟩;have hj : j1 < hd.ps.length := by rw [hj1];exact atN_lt hp0
    obtain ⟨bF,oF,csF,eF,rF,lF,mF,loF,aF⟩ := (dPs_seq hps).elemA (map_at hj) rfl;cases eF;obtain ⟨rfl,nmF⟩ := str_open rF;obtain ⟨arF,tF,hHF,hbF,hoF⟩ := I.tgt loF mF (by simp);have hoF : oF + j1 * 1 + 1 ≤ arF.size := hoF;refine .fl (trip := [(_,_,_),(_,_,_),(_,_,_),(_,_,_),(_,_,_),(_,_,_),(_,_,_),(_,_,_),(_,_,_),(_,_,_),(_,_,_),(_,_,_),(_,_,_),(_,_,_),(_,_,_)]) 15 [(0,0),(1,0),(2,0),(3,0),(4,0),(5,0),(6,0),(7,0),(8,0),(9,0),(10,0),(11,0),(12,0),(13,0),(14,0)] (by kernel_rfl) (by kernel_rfl) Z<|.m Z Z<|.yv (.nilCheck Z) Z<|.yv (.fieldAddr Z Fx.field82_1) Z<|.yv (.loadM Z Fx.agg54 mH (k := 1) Z Z) Z<|.yv (.fieldAddr Z Fx.field53_3) Z<|.yv (.load Z Fx.agg5 (.tail _<|.head _) Z) Z<|.m Z Z<|.yv (.nilCheck Z) Z<|.yv (.fieldAddr Z Fx.field82_1) Z<|.yv (.loadM Z Fx.agg54 mH (k := 1) Z Z) Z<|.yv (.lenSl Fx.sl54 Z) Z<|.yv (.cast (v' := .int .i64 (j1 : Nat)) (.call Fx.call42 Z (fun W t => at8_any H c.k hd.ps.length W t.agr)) (by rw [hj1])) Z<|.yv (.fieldAddr Z Fx.field53_4) Z<|.yv (.load Z Fx.agg5 (.tail _<|.head _) Z) Z<|.yv (.call Fx.call43 Z (fun W t => name8_any H c.nm W t.agr)) Z<|.fn (tl := [_,_]) Z<|.yv (.indexSl Fx.sl54 Z Z (i := j1) Z hj (q := oF + j1 * 1) Z) Z<|.stH Z Z Fx.size9 Z hHF hbF (show oF + j1 * 1 < arF.size by omega) fun H3 e3 => ?_
    have tr : Tr2 H H3 := by rw [e3];exact (tr_str mF (i := 0) rfl hHF (show (nmAt c.nm.toNat).length ≤ 1000000 by have := nmAt_len c.nm.toNat;omega)).two
    have I3 : Inv w0 H0 H3 := by rw [e3];exact I.put hbF
    refine .nl<|.bN<|?_
    exact Sx.retN (.inr rfl) rfl .nil rfl fun W t => ⟨H3,⟨tr,I3⟩,rfl,t.drop.drop.drop⟩
   try simp only [df] at h222
   refine .sr<|.m Z Z<|.yv (.nilCheck Z) Z<|.yv (.fieldAddr Z Fx.field82_1) Z<|.yv (.loadM Z Fx.agg54 mH (k := 1) Z Z) Z<|.yv (.lenSl Fx.sl54 Z) Z<|.yv (.lss Z Z) Z<|.nt<|.cd Z (fun h244 => ?_) (fun h244 => ?_)
   ·try simp only [dt] at h244
    refine .fl (trip := [(_,_,_),(_,_,_),(_,_,_),(_,_,_),(_,_,_),(_,_,_),(_,_,_),(_,_,_),(_,_,_),(_,_,_)]) 10 [(0,0),(1,0),(2,0),(3,0),(4,0),(5,0),(6,0),(7,0),(8,1),(9,3)] (by kernel_rfl) (by kernel_rfl) Z<|.m Z Z<|.m Z Z<|.yv (.nilCheck Z) Z<|.yv (.fieldAddr Z Fx.field82_1) Z<|.yv (.loadM Z Fx.agg54 mH (k := 1) Z Z) Z<|.yv (.fieldAddr Z Fx.field53_4) Z<|.yv (.load Z Fx.agg5 (.tail _<|.head _) Z) Z<|.yv (.call Fx.call43 Z (fun W t => name8_any H c.nm W t.agr)) Z<|.bl Z (Fx.bsl54_1 _) Z fun b253 => .apPS (xs := hd.ps.map strV) (u := ⟨(nmAt c.nm.toNat).toArray⟩) Fx.row54 Fx.zero9 Z hps (Nat.le_of_eq I.base) Z (.box (.head _) z0) (show (nmAt c.nm.toNat).length ≤ 1000000 by have := nmAt_len c.nm.toNat;omega) (by rw [List.length_map];simp only [maxLen];have := hbH0.ps;omega) (by rw [List.length_map];have := hbH0.ps;omega) Z (fun H5 hs5 => (.done (by kernel_rfl)<|.done (by kernel_rfl)<|.done (by kernel_rfl)<|.done (by kernel_rfl)<|.done (by kernel_rfl)<|.done (by kernel_rfl)<|.done (by kernel_rfl)<|.yv (.move Z)<|.nl)) fun r254 H5 hs5 hr5 => ?_
    have k5 := step_keep hs5 hHH (memAt_one mH (j := 1) rfl) ⟨_,_,_,rfl⟩;have hH5 := k5.trans hHH
    have hp5 : Rep H5 (dPs .i64 (hd.ps ++ [(nmAt c.nm.toNat)])) [r254] := by
     show Rep H5 (.ps _) _;rw [List.map_append];exact hr5
    have ho5 : r254.oneCell' = true := hr5.one _ (.head _);refine .fn (tl := [_,_,_]) Z<|.yv (.nilCheck Z) Z<|.yv (.fieldAddr Z Fx.field82_1) Z<|.stH Z Z Fx.size54 ho5 hH5 hbH (show oH + i3 * 3 + 1 < arH.size by omega) fun H3 e3 => ?_
    have tr : Tr2 H H3 := by rw [e3];exact tr_ps2 hs5 mH aH hHH hps hbd hp5 (by simp)
    have I3 : Inv w0 H0 H3 := by rw [e3];exact (I.step hs5).put hbH
    refine .nl<|.bN<|?_
    exact Sx.retN (.inr rfl) rfl .nil rfl fun W t => ⟨H3,⟨tr,I3⟩,rfl,t.drop.drop.drop.drop⟩
   try simp only [df] at h244
   refine .sk<|.bN<|?_
   exact Sx.retN (.inr rfl) rfl .nil rfl fun W t => ⟨H,⟨tr2_refl,I⟩,rfl,t.drop.drop.drop⟩
  try simp only [df] at h217
  refine .gF Z Z Z Z<|.gF Z Z Z Z<|.gF Z Z Z Z<|.gF Z Z Z Z<|.yv (.pickF Z Z) Z<|.nt<|.cF Z<|.sr<|.m Z Z<|.yv (.nilCheck Z) Z<|.yv (.fieldAddr Z Fx.field82_1) Z<|.yv (.loadM Z Fx.agg54 mH (k := 1) Z Z) Z<|.yv (.lenSl Fx.sl54 Z) Z<|.yv (.lss Z Z) Z<|.nt<|.cd Z (fun h244 => ?_) (fun h244 => ?_)
  ·try simp only [dt] at h244
   refine .fl (trip := [(_,_,_),(_,_,_),(_,_,_),(_,_,_),(_,_,_),(_,_,_),(_,_,_),(_,_,_),(_,_,_),(_,_,_)]) 10 [(0,0),(1,0),(2,0),(3,0),(4,0),(5,0),(6,0),(7,0),(8,1),(9,3)] (by kernel_rfl) (by kernel_rfl) Z<|.m Z Z<|.m Z Z<|.yv (.nilCheck Z) Z<|.yv (.fieldAddr Z Fx.field82_1) Z<|.yv (.loadM Z Fx.agg54 mH (k := 1) Z Z) Z<|.yv (.fieldAddr Z Fx.field53_4) Z<|.yv (.load Z Fx.agg5 (.tail _<|.head _) Z) Z<|.yv (.call Fx.call43 Z (fun W t => name8_any H c.nm W t.agr)) Z<|.bl Z (Fx.bsl54_1 _) Z fun b253 => .apPS (xs := hd.ps.map strV) (u := ⟨(nmAt c.nm.toNat).toArray⟩) Fx.row54 Fx.zero9 Z hps (Nat.le_of_eq I.base) Z (.box (.head _) z0) (show (nmAt c.nm.toNat).length ≤ 1000000 by have := nmAt_len c.nm.toNat;omega) (by rw [List.length_map];simp only [maxLen];have := hbH0.ps;omega) (by rw [List.length_map];have := hbH0.ps;omega) Z (fun H5 hs5 => (.done (by kernel_rfl)<|.done (by kernel_rfl)<|.done (by kernel_rfl)<|.done (by kernel_rfl)<|.done (by kernel_rfl)<|.done (by kernel_rfl)<|.done (by kernel_rfl)<|.yv (.move Z)<|.nl)) fun r254 H5 hs5 hr5 => ?_
   have k5 := step_keep hs5 hHH (memAt_one mH (j := 1) rfl) ⟨_,_,_,rfl⟩;have hH5 := k5.trans hHH
   have hp5 : Rep H5 (dPs .i64 (hd.ps ++ [(nmAt c.nm.toNat)])) [r254] := by
    show Rep H5 (.ps _) _;rw [List.map_append];exact hr5
   have ho5 : r254.oneCell' = true := hr5.one _ (.head _);refine .fn (tl := [_,_,_]) Z<|.yv (.nilCheck Z) Z<|.yv (.fieldAddr Z Fx.field82_1) Z<|.stH Z Z Fx.size54 ho5 hH5 hbH (show oH + i3 * 3 + 1 < arH.size by omega) fun H3 e3 => ?_
   have tr : Tr2 H H3 := by rw [e3];exact tr_ps2 hs5 mH aH hHH hps hbd hp5 (by simp)
   have I3 : Inv w0 H0 H3 := by rw [e3];exact (I.step hs5).put hbH
   refine .nl<|.bN<|?_
   exact Sx.retN (.inr rfl) rfl .nil rfl fun W t => ⟨H3,⟨tr,I3⟩,rfl,t.drop.drop.drop.drop⟩
  try simp only [df] at h244
  refine .sk<|.bN<|?_
  exact Sx.retN (.inr rfl) rfl .nil rfl fun W t => ⟨H,⟨tr2_refl,I⟩,rfl,t.drop.drop.drop⟩
 try simp only [df] at h202
 refine .fl (trip := [(_,_,_),(_,_,_),(_,_,_),(_,_,_),(_,_,_),(_,_,_),(_,_,_),(_,_,_),(_,_,_),(_,_,_),(_,_,_),(_,_,_),(_,_,_),(_,_,_),(_,_,_),(_,_,_),(_,_,_),(_,_,_),(_,_,_),(_,_,_),(_,_,_),(_,_,_),(_,_,_),(_,_,_),(_,_,_)]) 25 [(0,0),(1,0),(2,0),(3,0),(4,0),(5,0),(6,0),(7,0),(8,0),(9,0),(10,0),(11,0),(12,0),(13,0),(14,0),(15,0),(16,0),(17,0),(18,0),(19,0),(24,0),(20,1),(21,0),(22,0),(23,0)] (by kernel_rfl) (by kernel_rfl) Z<|.yv (.fieldAddr Z Fx.field78_2) Z<|.yv (.load Z Fx.agg76 (.head _) Z) Z<|.m Z Z<|.yv (.indexSl Fx.sl76 Z Z (i := i2) Z hv2 (q := oV + i2 * 1) Z) Z<|.yv (.loadM Z Fx.agg79 mV (k := 0) Z Z) Z<|.m Z Z<|.yv (.indexSl Fx.sl79 Z Z (i := i3) Z hh3 (q := oH + i3 * 3) Z) Z<|.yv (.fieldAddr Z Fx.field82_2) Z<|.yv (.loadM Z Fx.agg80 mH (k := 2) Z Z) Z<|.yv (.fieldAddr Z Fx.field53_3) Z<|.yv (.load Z Fx.agg5 (.tail _<|.head _) Z) Z<|.yv (.fieldAddr Z Fx.field78_2) Z<|.yv (.load Z Fx.agg76 (.head _) Z) Z<|.m Z Z<|.yv (.indexSl Fx.sl76 Z Z (i := i2) Z hv2 (q := oV + i2 * 1) Z) Z<|.yv (.loadM Z Fx.agg79 mV (k := 0) Z Z) Z<|.m Z Z<|.yv (.indexSl Fx.sl79 Z Z (i := i3) Z hh3 (q := oH + i3 * 3) Z) Z<|.yv (.fieldAddr Z Fx.field82_2) Z<|.yv (.loadM Z Fx.agg80 mH (k := 2) Z Z) Z<|.yv (.loadW Z Fx.agg53 (.tail _<|.head _) Z) Z<|.ct (X := Value) Fx.call22 Z (fun W t => flat_any hd.body (by have := hbH0.cnt;omega) H _ W hbd t.agr) Z fun v61 H61 hc61 u61 => ?_
 obtain ⟨p61,c61,e61,_⟩ := hc61.sl;simp only [List.cons.injEq,and_true,List.length_map] at e61;subst e61;have hcap61 := hc61.cap;refine .yv (.lenSl Fx.sl80 Z) Z<|.yv (.max2 Z Z (c := ((max 1 (Sm.flats hd.body).length : Nat) : Int)) (by omega)) Z<|.yv (.call Fx.call42 Z (fun W t => at8_any H61 c.k (max 1 (Sm.flats hd.body).length) W t.agr)) Z<|.fn (tl := [_]) Z<|.cs (X := Hp × Int) Fx.call50 Z (fun W t => statement8_st hd.body H61 W _ _ _ c (I.grow u61) (hbd.up u61.up) (by have := c.k.toNat_lt;have := atN_le c.k.toNat (max 1 (Sm.flats hd.body).length);omega) t) Z fun z66 hz66 => ?_
 obtain ⟨H66,r66⟩ := z66;unfold StC at hz66;dsimp only at hz66 ⊢
 have I66 : Inv w0 H0 H66 := by
  rcases hz66 with ⟨_,_,h⟩ | ⟨_,_,rfl⟩
  ·exact h
  ·exact I.grow u61
 have tr : Tr2 H H66 := by
  rcases hz66 with ⟨_,h,_⟩ | ⟨_,_,rfl⟩
  ·exact tr2_up u61.up h.two
  ·exact tr2_up u61.up tr2_refl
 refine .nl<|.bN<|?_
 exact Sx.retN (.inr rfl) rfl .nil rfl fun W t => ⟨H66,⟨tr,I66⟩,rfl,t.drop.drop.drop⟩
theorem Fx.call23 : callN Tryz.prog 23 = Bool.true := by kernel_rfl
theorem Fx.sl26 : slN Tryz.prog 26 = Option.some 5 := by kernel_rfl
theorem chgc {H : Hp} {x : Chg} {cs : List Value} (h : Rep H (dChg x) cs) : cs = cChg x := by
 rw [dChg,repS] at h;obtain ⟨_,rfl,_,_,h⟩ := repL_val.1 h;obtain ⟨_,rfl,_,_,h⟩ := repL_val.1 h;obtain ⟨_,rfl,_,_,h⟩ := repL_val.1 h;obtain ⟨_,rfl,_,_,h⟩ := repL_val.1 h;obtain ⟨_,rfl,_,_,h⟩ := repL_val.1 h;rw [repL_nil] at h;subst h;rfl
theorem ft_len9 {H : Hp} {k : IntKind} {f : Ft} {cs : List Value} (h : Rep H (dFt k f) cs) : cs.length = 4 := by
 obtain ⟨_,_,_,_,_,_,rfl,_⟩ := ft_open h
 rfl
structure Blt (w0 : World) (H0 H : Hp) (k : Nat) (f : Ft) (cs : List Value) : Prop where
 inv : Inv w0 H0 H
 rep : Rep H (dFt .i64 f) cs
 pos : posF f
 bnd : ∃ M D,M ≤ 100 + 2 * k ∧ D * 4 ^ (4 - k) ≤ 16384 ∧ bndF M D f
theorem Blt.next {w0 : World} {H0 H H' : Hp} {k : Nat} {f : Ft} {cs : List Value} (b : Blt w0 H0 H k f cs) (hk : k < 4) (I : Inv w0 H0 H') (t : Tr2 H H') : ∃ g,Blt w0 H0 H' (k + 1) g cs := by
 obtain ⟨K,t1,t2⟩ := t;obtain ⟨g,g1,g2⟩ := t1 f cs b.pos b.rep;obtain ⟨h,h1,h2⟩ := t2 g cs (g1.pos b.pos) g2;obtain ⟨M,D,hM,hD,hb⟩ := b.bnd;refine ⟨h,I,h2,h1.pos (g1.pos b.pos),_,_,?_,?_,h1.bnd (g1.bnd hb)⟩
 ·omega
 ·have e : 4 ^ (4 - k) = 4 * 4 ^ (4 - (k + 1)) := by rw [show 4 - k = (4 - (k + 1)) + 1 by omega,Nat.pow_succ,Nat.mul_comm]
  rw [e] at hD;generalize 4 ^ (4 - (k + 1)) = q at hD ⊢;have : 2 * (2 * D) * q = D * (4 * q) := by rw [← Nat.mul_assoc,← Nat.mul_assoc,Nat.mul_comm D 4]
  omega
theorem Blt.ok {w0 : World} {H0 H : Hp} {k : Nat} {f : Ft} {cs : List Value} (b : Blt w0 H0 H k f cs) (hk : k ≤ 4) : ∃ M D,M ≤ 1000 ∧ D ≤ 1000000 ∧ bndF M D f := by
 obtain ⟨M,D,hM,hD,hb⟩ := b.bnd;refine ⟨M,D,by omega,?_,hb⟩;have : D * 1 ≤ D * 4 ^ (4 - k) := Nat.mul_le_mul_left D (Nat.pos_of_ne_zero (by simp));omega
structure Fin (w0 : World) (H0 H : Hp) (f : Ft) (cs : List Value) : Prop where
 inv : Inv w0 H0 H
 rep : Rep H (dFt .i64 f) cs
 pos : posF f
 bnd : ∃ M D,M ≤ 1000 ∧ D ≤ 1000000 ∧ bndF M D f
theorem Blt.toFin {w0 : World} {H0 H : Hp} {k : Nat} {f : Ft} {cs : List Value} (b : Blt w0 H0 H k f cs) (hk : k ≤ 4) : Fin w0 H0 H f cs := ⟨b.inv,b.rep,b.pos,b.ok hk⟩
set_option maxRecDepth 100000 in
theorem build8_st {w0 : World} {H0 H : Hp} {W : World} {bs : List Res} {p : Pln} {cs : List Value} {l : List Chg} {v : Value} (I : Inv w0 H0 H) (h : Rep H (dPln p) cs) (hl : Rep H0 (.seq 5 (l.map dChg)) [v]) (s : St H w0 bs W) :
 Calls Tryz.prog 7 #[.agg cs.toArray,v] W fun e W' => ∃ z : Hp × Ft × List Value,Fin w0 H0 z.1 z.2.1 z.2.2 ∧ e = .returned (.agg z.2.2.toArray) ∧ St z.1 w0 bs W' := by
 obtain ⟨p1,c1,p2,c2,rfl,_,_⟩ := pln_open h;obtain ⟨pl,cl,el,_⟩ := hl.sl;simp only [List.cons.injEq,and_true,List.length_map] at el;subst el;have hlcap := hl.cap;refine Sx.enterS Tryz.func7 rfl Tryz.ntmps7 rfl s ?_;refine .sr<|.bx Z Z Z fun b2 => .al Fx.zero31 Z fun b4 => .ns<|.yv (.loadW Z Fx.agg25 (.tail _<|.head _) Z) Z<|.ct (X := List Value) Fx.call15 Z (fun W t => build_plan H p _ W h t.agr) Z fun x8 H8 hx8 u8 => ?_
 have b0 : Blt w0 H0 H8 0 (buildF p) x8 := ⟨I.grow u8,hx8,posF_build p,100,64,by omega,by decide,bndF_of (buildF_ok p) (fun c hc => (buildF_sm p c hc).2.1) (ini_build p)⟩;have hxl := ft_len9 hx8;refine .al Fx.zero31 Z fun b5 => .sV .head Z Z Fx.size31 (ft_len9 hx8) hx8.one Z<|.nt<|.sq<|.sr<|.a Z Z<|.nt<|.bk<|.lp (X := Nat × Hp × Ft) [(1,_),(4,_),(5,_)] ⟨rfl,rfl,rfl,trivial⟩ (_ :: _ :: _ :: bs) (fun z => [(6,.int .i64 (z.1 : Nat))]) (fun z => z.2.1) (fun z => []) (fun z => z.1 ≤ 4 ∧ Blt w0 H0 z.2.1 z.1 z.2.2 x8) (fun z => 4 - z.1) (0,H8,buildF p) (fun _ s => s) ⟨rfl,trivial⟩ ⟨Nat.zero_le 4,b0⟩ fun z hC => ?_
 obtain ⟨i,Hk,fk⟩ := z;dsimp only at hC ⊢;obtain ⟨hi0,bk⟩ := hC;have hlk := hl.up bk.inv.up.up;refine .sq<|.sr<|.m Z Z<|.m Z Z<|.yv (.lenSl Fx.sl26 Z) Z<|.yv (.lss Z Z) Z<|.m Z Z<|.b2 (fun h13 => ?_) (fun h13 => ?_)
 ·try simp only [dt] at h13
  have hi1 : i < l.length := by omega
  refine .gd Z Z<|.yv (.move Z) Z<|.gd Z Z<|.yv (.lss Z Z) Z<|.yv (.pickT Z Z) Z<|.nt<|.cd Z (fun h16 => ?_) (fun h16 => ?_)
  ·try simp only [dt] at h16
   have hi2 : i < 4 := by omega
   obtain ⟨bE,oE,csE,eE,rE,lE,mE⟩ := hlk.elem (map_at hi1);cases eE;obtain rfl := chgc rE;refine .sk<|.tN<|.sq<|.bk<|.fl (trip := [(_,_,_),(_,_,_),(_,_,_),(_,_,_),(_,_,_)]) 5 [(0,0),(1,0),(2,0),(3,0),(4,0)] (by kernel_rfl) (by kernel_rfl) Z<|.yv (.loadW Z Fx.agg31 (.head _) (ft_len9 hx8)) Z<|.m Z Z<|.m Z Z<|.yv (.indexSl Fx.sl26 Z Z Z (by omega) (q := oE + i * 5) Z) Z<|.yv (.loadMW Z Fx.agg53 mE Z) Z<|.fn (tl := [_]) Z<|.cs (X := Hp) Fx.call23 Z (fun W t => by obtain ⟨M,D,hM,hD,hb⟩ := bk.ok hi0;exact apply8_st l[i] bk.inv bk.rep bk.pos hb hM t) Z fun z24 hz24 => ?_
   obtain ⟨f24,b24⟩ := bk.next hi2 hz24.2 hz24.1;exact .nl<|.bN<|.tN<|.rg<|.m Z Z<|.yv (.add Z Z (w6 (by omega))) Z<|.a Z Z<|.nt<|.ag (x := (i,Hk,fk)) (i + 1,z24,f24) ⟨rfl,trivial⟩ ⟨rfl,rfl,rfl,trivial⟩ (fun _ s => s) ⟨by dsimp only;omega,b24⟩ (by dsimp only;omega)
  skip
  refine .ex<|.tE<|.tE<|.bE<|.tN<|.sr<|.yv (.loadW Z Fx.agg31 (.head _) (ft_len9 hx8)) Z<|.sV (.tail<|.head) Z Z Fx.size31 (ft_len9 hx8) hx8.one Z<|.nt<|.rt<|?_
  refine Sx.ret1 (.inl rfl) rfl (.cell rfl Fx.agg31 (.tail _<|.head _) hxl) fun W t => ⟨(Hk,fk,x8),bk.toFin hi0,rfl,t.drop.drop.drop⟩
 try simp only [df] at h13
 refine .gF Z Z Z Z<|.gF Z Z Z Z<|.yv (.pickF Z Z) Z<|.nt<|.cF Z<|.ex<|.tE<|.tE<|.bE<|.tN<|.sr<|.yv (.loadW Z Fx.agg31 (.head _) (ft_len9 hx8)) Z<|.sV (.tail<|.head) Z Z Fx.size31 (ft_len9 hx8) hx8.one Z<|.nt<|.rt<|?_
 refine Sx.ret1 (.inl rfl) rfl (.cell rfl Fx.agg31 (.tail _<|.head _) hxl) fun W t => ⟨(Hk,fk,x8),bk.toFin hi0,rfl,t.drop.drop.drop⟩
theorem frsP_none {l : List Pb} (hl : NzP l) (h : (frsP noP l).er = 0) : l = [] := by
 cases l with
 | nil => rfl
 | cons x r =>
  rw [frsP,if_pos (show noP.er = 0 from rfl)] at h;exact absurd h (hl x (.head _))
theorem sall_self {q : Sm → Bool} {x : Sm} (h : Sm.all q x = true) : q x = true := by
 obtain ⟨kd,nm,hd,ex,th,el⟩ := x;rw [sall_mk,Bool.and_eq_true,Bool.and_eq_true] at h;exact h.1.1
theorem check_hd {f : Ft} (h0 : checkF f = 0) {c : Cp} (hc : c ∈ f.comps) {v : List Hd} (hv : v ∈ c.vers) {h : Hd} (hh : h ∈ v) : Sm.alls smaS h.body = true ∧ Sm.alls namS h.body = true ∧ Sm.alls frmS h.body = true := by
 unfold checkF at h0
 split at h0
 ·cases h0
 rename_i h1
 split at h0
 ·cases h0
 rename_i h2
 split at h0
 ·cases h0
 rename_i h3;simp only [Bool.not_eq_false] at h1 h2 h3
 have ev : ∀ q,evH q f = true → q h = true := fun q e => by
  unfold evH at e;exact List.all_eq_true.1 (List.all_eq_true.1 (List.all_eq_true.1 e c hc) v hv) h hh
 unfold smlF at h1;unfold namF at h2;unfold frmF at h3;simp only [Bool.and_eq_true] at h1 h2 h3;have k1 := ev _ h1.2.2;have k2 := ev _ h2.2;have k3 := ev _ h3.2;unfold smaH at k1;unfold namH at k2;unfold frmH at k3;simp only [Bool.and_eq_true] at k1 k2;exact ⟨k1.2,k2.2,k3⟩
theorem ealls_mem {q : Ex → Bool} : ∀ {l : List Ex},Ex.alls q l = true → ∀ e ∈ l,Ex.all q e = true
 | [],_,e,he => by cases he
 | x :: r,h,e,he => by
  rw [Ex.alls,Bool.and_eq_true] at h;rcases List.mem_cons.1 he with rfl | he
  ·exact h.1
  ·exact ealls_mem h.2 e he
theorem Fx.call7 : callN Tryz.prog 7 = Bool.true := by kernel_rfl
theorem gl_at {H : Hp} (n : Nat) (G : Gl H) : Gl (H.at n) := ⟨G.shapes,G.forms,G.words,G.symbols⟩
theorem txtL_map {α : Type} {f : α → D} (h : ∀ x,(f x).txt = false) : ∀ l : List α,D.txtL (l.map f) = false
 | [] => rfl
 | x :: r => by rw [List.map_cons,D.txtL,h x,txtL_map h r];rfl
theorem txt_cd (x : Cd) : (dCd x).txt = false := by
 simp only [dCd,D.txt,D.txtL,txtL_map (f := dU8) (fun _ => rfl),Bool.or_false]
theorem txt_prt (x : Prt) : (dPrt x).txt = false := by
 simp only [dPrt,D.txt,D.txtL,txtL_map txt_cd,Bool.or_false]
theorem txt_pln (x : Pln) : (dPln x).txt = false := by
 simp only [dPln,D.txt,D.txtL,txtL_map (f := dU8) (fun _ => rfl),txtL_map txt_prt,Bool.or_false]
theorem txt_chgs (l : List Chg) : D.txt (.seq 5 (l.map dChg)) = false := txtL_map (f := dChg) (fun _ => rfl) l
theorem Fx.bsl22_1 (x0 : Int) : bslN Tryz.prog 22 1 [(0,.int .u8 x0)] = some (5,[.int .u8 x0]) := by kernel_rfl
theorem any_succ1 {α : Type} {q : α → Bool} {l : List α} {k : Nat} (h : k < l.length) : (l.take (k + 1)).any q = ((l.take k).any q || q l[k]) := by
 rw [take_snoc h,List.any_append];simp
def hdI (l : List (List Hd)) (n : Str) : Int := match hdF l n with | some h => (h.ps.length : Nat) | none => -1
theorem hdF_snoc {l : List (List Hd)} {v : List Hd} {n : Str} (h : hdF l n = none) : hdF (l ++ [v]) n = v.find? fun x => decide (x.nm = n) := by
 unfold hdF at h ⊢;rw [List.flatten_append,List.find?_append,h];simp
theorem hdF_find {l m : List (List Hd)} {v : List Hd} {j : Nat} {n : Str} (h : hdF l n = none) (hj : j < v.length) (h1 : (v.take j).find? (fun x => decide (x.nm = n)) = none) (h2 : v[j].nm = n) : hdF (l ++ v :: m) n = some v[j] := by
 unfold hdF at h ⊢;rw [List.flatten_append,List.flatten_cons,List.find?_append,h];have e : v = v.take j ++ (v[j] :: v.drop (j + 1)) := by simp
 have e2 : (v ++ m.flatten).find? (fun x => decide (x.nm = n)) = some v[j] := by
  generalize hx : v[j] = x at e h2 ⊢;rw [e,List.append_assoc,List.find?_append,h1,List.cons_append,List.find?_cons_of_pos (by simp [h2])]
  rfl
 rw [e2];rfl
theorem find_succ {l : List Hd} {k : Nat} {n : Str} (h : k < l.length) (h1 : (l.take k).find? (fun x => decide (x.nm = n)) = none) (h2 : ¬ l[k].nm = n) : (l.take (k + 1)).find? (fun x => decide (x.nm = n)) = none := by
 rw [take_snoc h,List.find?_append,h1];simp [h2]
theorem take_at {α : Type} {l : List α} {v m : Nat} (hv : v < m) (hm : m ≤ l.length) : ∃ r,l.take m = l.take v ++ (l[v]'(by omega)) :: r := by
 refine ⟨(l.take m).drop (v + 1),?_⟩;have h1 : v < (l.take m).length := by rw [List.length_take];omega
 have e := List.take_append_drop v (l.take m);rw [List.take_take,Nat.min_eq_left (by omega),List.drop_eq_getElem_cons h1,List.getElem_take] at e;exact e.symm
theorem itoaN_big {n : Nat} (h : 9 < n) : itoaN n = itoaN (n / 10) ++ [UInt8.ofNat (48 + n % 10)] := by
 rw [itoaN_dec,itoaN_dec,Lib.decDigits,dif_neg (by omega)]
theorem itoaN_small {n : Nat} (h : ¬ 9 < n) : itoaN n = [UInt8.ofNat (48 + n)] := by
 rw [itoaN_dec,Lib.decDigits_one (by omega)]
set_option maxRecDepth 100000 in
theorem componentR_any (H : Hp) (f : Ft) (cs : List Value) (h : Rep H (dFt .i64 f) cs) (n : Str) (m : Nat) (hm : m ≤ f.comps.length) (w : World) (hA : Agr H w) :
 Calls Tryz.prog 34 #[.agg cs.toArray,.int .i64 (m : Nat),strV n] w fun r w' => r = .returned (.int .i64 (ixI (fun x => decide (x.nm = n)) (f.comps.take m))) ∧ Ext w w' := by
 obtain ⟨p1,c1,p2,c2,p3,c3,rfl,hn,h1,h2,h3⟩ := ft_open h;have hcap := h3.cap;refine Sx.enter (H := H) Tryz.func34 rfl Tryz.ntmps34 rfl hA ?_;refine .sr<|.bx Z Z Z fun b3 => .a Z Z<|.nt<|.sq<|.sr<|.a Z Z<|.nt<|.bk<|.lp (X := Nat) [(1,_),(2,_),(3,_)] ⟨rfl,rfl,rfl,trivial⟩ [_] (fun k => [(7,.int .i64 (k : Nat))]) (fun k => H) (fun k => []) (fun k => k ≤ m ∧ (f.comps.take k).any (fun x => decide (x.nm = n)) = false) (fun k => m - k) 0 (fun _ s => s) ⟨rfl,trivial⟩ ⟨by omega,rfl⟩ fun k hC => ?_
 obtain ⟨hk0,hal⟩ := hC;refine .sq<|.sr<|.m Z Z<|.m Z Z<|.yv (.lss Z Z) Z<|.nt<|.cd Z (fun h10 => ?_) (fun h10 => ?_)
 ·try simp only [dt] at h10
  have hk : k < f.comps.length := by omega
  obtain ⟨bE,oE,cE,hpE,rE,lE,mE⟩ := h3.elem (map_at (f := (dCp .i64)) hk);cases hpE;generalize hxE : f.comps[k] = xE at rE;obtain ⟨q4,d4,q5,d5,rfl,_⟩ := cp_open rE;refine .sk<|.tN<|.sq<|.bk<|.sr<|.yv (.fieldAddr Z Fx.field31_3) Z<|.yv (.load Z Fx.agg29 (.head _) Z) Z<|.m Z Z<|.yv (.indexSl Fx.sl29 Z Z Z (by omega) (q := oE + k * 3) Z) Z<|.yv (.fieldAddr Z Fx.field78_0) Z<|.yv (.loadM Z Fx.agg9 mE (k := 0) Z Z) Z<|.m Z Z<|.yv (.eqS Z Z) Z<|.nt<|.cd Z (fun h20 => ?_) (fun h20 => ?_)
  ·try simp only [dt] at h20
   refine .sr<|.m Z Z<|.a Z Z<|.nt<|.rt<|.bR<|.tR<|.tR<|.bR<|.tR<|?_
   refine Sx.ret1 (.inl rfl) rfl (.tmp rfl) fun W s => ⟨?_,s.ext⟩
   first
    | (rw [ixI_none hal])
    | (rw [ixI_at (l := f.comps.take m) (k := k) (by rw [List.length_take];omega) (by rw [List.take_take,Nat.min_eq_left (by omega)];exact hal) (by rw [List.getElem_take,hxE];exact decide_eq_true h20)])
  try simp only [df] at h20
  exact .sk<|.bN<|.tN<|.rg<|.m Z Z<|.yv (.add Z Z (w6 (by omega))) Z<|.a Z Z<|.nt<|.ag (k + 1) ⟨rfl,trivial⟩ ⟨rfl,rfl,rfl,trivial⟩ (fun _ s => (s.pick [0] _ Z Z)) ⟨by omega,by rw [any_succ1 hk,hal,hxE,decide_eq_false h20];rfl⟩ (by omega)
 try simp only [df] at h10
 obtain rfl : k = m := by omega
 refine .ex<|.tE<|.tE<|.bE<|.tN<|.sr<|.a Z Z<|.nt<|.rt<|?_
 refine Sx.ret1 (.inl rfl) rfl (.tmp rfl) fun W s => ⟨?_,s.ext⟩
 first
  | (rw [ixI_none hal])
  | (rw [ixI_at (l := f.comps.take m) (k := k) (by rw [List.length_take];omega) (by rw [List.take_take,Nat.min_eq_left (by omega)];exact hal) (by rw [List.getElem_take,hxE];exact decide_eq_true h20)])
set_option maxRecDepth 100000 in
theorem handlerR_any (H : Hp) (c : Cp) (cs : List Value) (h : Rep H (dCp .i64 c) cs) (n : Str) (m : Nat) (hm : m ≤ c.vers.length) (w : World) (hA : Agr H w) :
 Calls Tryz.prog 72 #[.agg cs.toArray,.int .i64 (m : Nat),strV n] w fun r w' => r = .returned (.int .i64 (hdI (c.vers.take m) n)) ∧ Ext w w' := by
 obtain ⟨p1,c1,p2,c2,rfl,hn,h1,h2⟩ := cp_open h;have hcap := h2.cap;refine Sx.enter (H := H) Tryz.func72 rfl Tryz.ntmps72 rfl hA ?_;refine .sr<|.bx Z Z Z fun b3 => .a Z Z<|.nt<|.sq<|.sr<|.a Z Z<|.nt<|.bk<|.lp (X := Nat) [(1,_),(2,_),(3,_)] ⟨rfl,rfl,rfl,trivial⟩ [_] (fun z => [(7,.int .i64 (z : Nat))]) (fun z => H) (fun z => []) (fun z => z ≤ m ∧ hdF (c.vers.take z) n = none) (fun z => m - z) 0 (fun _ s => s) ⟨rfl,trivial⟩ ⟨by omega,rfl⟩ fun z hC => ?_
 obtain ⟨v,hv⟩ : ∃ v,v = z := ⟨z,rfl⟩;subst hv;obtain ⟨hv0,hal⟩ := hC;refine .sq<|.sr<|.m Z Z<|.m Z Z<|.yv (.lss Z Z) Z<|.nt<|.cd Z (fun h12 => ?_) (fun h12 => ?_)
 ·try simp only [dt] at h12
  have hvm : v < m := by omega
  have hv : v < c.vers.length := by omega
  obtain ⟨bV,oV,csV,eV,rV,lV,mV⟩ := h2.elem (map_at hv);cases eV;obtain ⟨q6,d6,rfl,hhd⟩ := vs_open rV;have hcv := hhd.cap;refine .sk<|.tN<|.sq<|.bk<|.sr<|.yv (.fieldAddr Z Fx.field78_2) Z<|.yv (.load Z Fx.agg76 (.head _) Z) Z<|.m Z Z<|.yv (.indexSl Fx.sl76 Z Z Z (by omega) (q := oV + v * 1) Z) Z<|.yv (.loadM Z Fx.agg79 mV (k := 0) Z Z) Z<|.yv (.lenSl Fx.sl79 Z) Z<|.m Z Z<|.nt<|.bk<|.lp (X := Nat) [(1,_),(2,_),(3,_),(7,_),(19,_),(20,_)] ⟨rfl,rfl,rfl,rfl,rfl,rfl,trivial⟩ [_] (fun z => [(21,.int .i64 (z : Nat))]) (fun z => H) (fun z => []) (fun z => z ≤ c.vers[v].length ∧ (c.vers[v].take z).find? (fun x => decide (x.nm = n)) = none) (fun z => c.vers[v].length - z) 0 (fun _ s => s) ⟨rfl,trivial⟩ ⟨Nat.zero_le _,rfl⟩ fun z hC => ?_
  obtain ⟨j,hj⟩ : ∃ v,v = z := ⟨z,rfl⟩;subst hj;obtain ⟨hj0,hjn⟩ := hC;refine .sr<|.yv (.lss Z Z) Z<|.nt<|.sq<|.cd Z (fun h22 => ?_) (fun h22 => ?_)
  ·try simp only [dt] at h22
   have hj : j < c.vers[v].length := by omega
   obtain ⟨bK,oK,csK,eK,rK,lK,mK⟩ := hhd.elem (map_at hj);cases eK;obtain ⟨q7,d7,q8,d8,rfl,nmK,hps,hbd⟩ := hd_open rK;have hpc := hps.cap;refine .sk<|.tN<|.sq<|.bk<|.sr<|.yv (.indexSl Fx.sl79 Z Z Z (by omega) (q := oK + j * 3) Z) Z<|.yv (.loadMW Z Fx.agg82 mK Z) Z<|.al Fx.zero82 Z fun b9 => .sW .head Z Z Fx.size82 (by simp [Value.oneCell',strV]) Z<|.ns<|.yv (.fieldAddr Z Fx.field82_0) Z<|.yv (.load Z Fx.agg9 (.head _) Z) Z<|.m Z Z<|.yv (.eqS Z Z) Z<|.nt<|.cd Z (fun h28 => ?_) (fun h28 => ?_)
   ·try simp only [dt] at h28
    refine .sr<|.yv (.fieldAddr Z Fx.field82_1) Z<|.yv (.load Z Fx.agg54 (.head _) Z) Z<|.yv (.lenSl Fx.sl54 Z) Z<|.a Z Z<|.nt<|.rt<|.bR<|.tR<|.tR<|.bR<|.bR<|.tR<|.tR<|.bR<|.tR<|?_
    refine Sx.ret1 (.inl rfl) rfl (.tmp rfl) fun W s => ⟨?_,s.ext⟩;obtain ⟨r,er⟩ := take_at hvm hm;rw [hdI,er,hdF_find hal hj hjn h28]
   try simp only [df] at h28
   exact .sk<|.bN<|.tN<|.rg<|.yv (.add Z Z (w6 (by omega))) Z<|.m Z Z<|.nt<|.ag (x := j) (j + 1) ⟨rfl,trivial⟩ ⟨rfl,rfl,rfl,rfl,rfl,rfl,trivial⟩ (fun _ s => (s.pick [1] _ Z Z)) ⟨by omega,find_succ hj hjn h28⟩ (by omega)
  try simp only [df] at h22
  obtain rfl : j = c.vers[v].length := by omega
  have hfl := hjn;rw [List.take_length] at hfl;exact .ex<|.tE<|.tE<|.bE<|.bN<|.tN<|.rg<|.m Z Z<|.yv (.add Z Z (w6 (by omega))) Z<|.a Z Z<|.nt<|.ag (x := v) (v + 1) ⟨rfl,trivial⟩ ⟨rfl,rfl,rfl,trivial⟩ (fun _ s => (s.pick [0] _ Z Z)) ⟨by omega,by rw [take_snoc hv,hdF_snoc hal];exact hfl⟩ (by omega)
 try simp only [df] at h12
 obtain rfl : v = m := by omega
 refine .ex<|.tE<|.tE<|.bE<|.tN<|.sr<|.a Z Z<|.nt<|.rt<|?_
 refine Sx.ret1 (.inl rfl) rfl (.tmp rfl) fun W s => ⟨?_,s.ext⟩;rw [hdI,hal]
theorem app_str (a b : Str) : Value.string (⟨a.toArray⟩ ++ ⟨b.toArray⟩) = strV (a ++ b) := by
 unfold strV
 congr 1
set_option maxRecDepth 100000 in
theorem number_any (H : Hp) (n : Nat) (hn : n ≤ 1000000) (w : World) (hA : Agr H w) : Calls Tryz.prog 71 #[.int .i64 (n : Nat)] w fun r w' => r = .returned (strV (itoaN n)) ∧ Ext w w' := by
 refine Sx.enter (H := H) Tryz.func71 rfl Tryz.ntmps71 rfl hA ?_;refine .sr<|.a Z Z<|.ns<|.a Z Z<|.nt<|.sq<|.bk<|.lp (X := Nat × Str) [] trivial [] (fun z => [(0,.int .i64 (z.1 : Nat)),(3,strV z.2)]) (fun z => H) (fun z => []) (fun z => z.1 ≤ n ∧ itoaN n = itoaN z.1 ++ z.2 ∧ z.2.length ≤ n - z.1) (fun z => z.1) (n,[]) (fun _ s => s) ⟨rfl,rfl,trivial⟩ ⟨Nat.le_refl _,by simp,by simp⟩ fun z hC => ?_
 obtain ⟨k,t⟩ := z;dsimp only at hC ⊢;obtain ⟨hk0,hk1,hk2⟩ := hC;refine .sq<|.sr<|.m Z Z<|.yv (.gtr Z Z) Z<|.nt<|.cd Z (fun h5 => ?_) (fun h5 => ?_)
 ·try simp only [dt] at h5
  have hk9 : 9 < k := by omega
  exact .sk<|.tN<|.bk<|.sr<|.m Z Z<|.yv (.rem Z Z (by decide) (c := ((k % 10 : Nat) : Int)) (tm2 _ 10)) Z<|.yv (.add Z Z (c := ((48 + k % 10 : Nat) : Int)) ((w6 (by omega)).trans (by omega))) Z<|.yv (.conv Z Fx.int3 Fx.int5 (c := (((UInt8.ofNat (48 + k % 10)).toNat : Nat) : Int)) (by rw [show ((UInt8.ofNat (48 + k % 10)).toNat : Int) = ((48 + k % 10 : Nat) : Int) by simp [UInt8.toNat_ofNat'];omega];simp only [IntKind.wrap,IntKind.signed,IntKind.bits];simp;omega)) Z<|.bl Z (Fx.bsl22_1 _) Z fun b10 => .yv (.bytesStr (l := [UInt8.ofNat (48 + k % 10)]) Fx.bytes22 Fx.str9 Z Z (.box (.head _) z0)) Z<|.m Z Z<|.yv (.cast (v' := strV ([UInt8.ofNat (48 + k % 10)] ++ t)) (.app Z Z (by simp only [List.length_cons,List.length_nil];omega)) (app_str _ _)) Z<|.a Z Z<|.nt<|.rg<|.m Z Z<|.yv (.quo Z Z (by decide) (c := ((k / 10 : Nat) : Int)) (by rw [show (k : Int).tdiv 10 = ((k / 10 : Nat) : Int) from Z];exact w64 (by omega) (by omega))) Z<|.a Z Z<|.nl<|.bN<|.tN<|.ag (x := (k,t)) (k / 10,[UInt8.ofNat (48 + k % 10)] ++ t) ⟨rfl,rfl,trivial⟩ trivial (fun _ s => (s.pick [] _ Z Z)) ⟨by dsimp only;omega,by dsimp only;rw [hk1,itoaN_big hk9,List.append_assoc],by dsimp only;rw [List.length_append];simp only [List.length_cons,List.length_nil];omega⟩ (by dsimp only;omega)
 try simp only [df] at h5
 have hk9 : ¬ 9 < k := by omega
 refine .ex<|.tE<|.tE<|.bE<|.tN<|.sr<|.m Z Z<|.yv (.add Z Z (c := ((48 + k : Nat) : Int)) ((w6 (by omega)).trans (by omega))) Z<|.yv (.conv Z Fx.int3 Fx.int5 (c := (((UInt8.ofNat (48 + k)).toNat : Nat) : Int)) (by rw [show ((UInt8.ofNat (48 + k)).toNat : Int) = ((48 + k : Nat) : Int) by simp [UInt8.toNat_ofNat'];omega];simp only [IntKind.wrap,IntKind.signed,IntKind.bits];simp;omega)) Z<|.bl Z (Fx.bsl22_1 _) Z fun b19 => .yv (.bytesStr (l := [UInt8.ofNat (48 + k)]) Fx.bytes22 Fx.str9 Z Z (.box (.head _) z0)) Z<|.m Z Z<|.yv (.cast (v' := strV ([UInt8.ofNat (48 + k)] ++ t)) (.app Z Z (by simp only [List.length_cons,List.length_nil];omega)) (app_str _ _)) Z<|.a Z Z<|.nt<|.rt<|?_
 refine Sx.ret1 (.inl rfl) rfl (.tmp rfl) fun W s => ⟨?_,s.ext⟩;rw [hk1,itoaN_small hk9]
theorem Fx.call72 : callN Tryz.prog 72 = Bool.true := by kernel_rfl
theorem Fx.call97 : callN Tryz.prog 97 = Bool.true := by kernel_rfl
structure RsF (H : Hp) (f : Ft) (c : Cp) (ps : List Str) (cs : List Value) : Prop where
 ex : ∃ p1 c1 p2 c2 p3 c3 q1 d1 q2 d2 p5 c5,cs = [strV f.nm,.slice p1 f.flags.length c1,.slice p2 f.links.length c2,.slice p3 f.comps.length c3,strV c.nm,.slice q1 c.vars.length d1,.slice q2 c.vers.length d2,.slice p5 ps.length c5] ∧
  Rep H (dFt .i64 f) [strV f.nm,.slice p1 f.flags.length c1,.slice p2 f.links.length c2,.slice p3 f.comps.length c3] ∧ Rep H (dCp .i64 c) [strV c.nm,.slice q1 c.vars.length d1,.slice q2 c.vers.length d2] ∧ Rep H (.seq 1 (ps.map dStrL)) [.slice p5 ps.length c5]
theorem RsF.r {H : Hp} {f : Ft} {c : Cp} {ps : List Str} {cs : List Value} (h : RsF H f c ps cs) : RsR H f c ps cs := by
 obtain ⟨p1,c1,p2,c2,p3,c3,q1,d1,q2,d2,p5,c5,e,k1,k2,k3⟩ := h.ex;obtain ⟨_,_,_,_,_,_,e1,_,j1,_,_⟩ := ft_open k1;obtain ⟨_,_,_,_,e2,_,j2,_⟩ := cp_open k2;simp only [List.cons.injEq,Value.slice.injEq,and_true,true_and] at e1 e2;obtain ⟨⟨rfl,rfl⟩,-,-⟩ := e1;obtain ⟨⟨rfl,rfl⟩,-⟩ := e2;exact ⟨p1,c1,p2,c2,p3,c3,q1,d1,q2,d2,p5,c5,e,j1,j2,k3⟩
def tgR (s : Sc) (n : Str) (a b : UInt8) : Tr := if hasB s.ps n then ⟨0,n,10⟩ else match varF s.vars n with | none => if flagB s.flags n then ⟨0,n,10⟩ else ⟨0,n,9⟩ | some v => if v.ty = a ∨ v.ty = b then ⟨v.ty,[],0⟩ else ⟨0,n,10⟩
def nmR (s : Sc) : List Ex → Tr
 | [] => ⟨0,[],0⟩
 | e :: r => if ¬ (tyR s e).er = 0 then tyR s e else if ¬ (tyR s e).ty = 1 then ⟨0,[],10⟩ else nmR s r
def clR (s : Sc) (vs : List (List Hd)) (n : Str) (es : List Ex) (k : Nat) : Tr := match hdF vs n with | none => ⟨0,n,9⟩ | some h => if ¬ es.length = h.ps.length + k then ⟨0,n,10⟩ else nmR s es
theorem u8eq {a b : UInt8} : ((a.toNat : Nat) : Int) = (b.toNat : Nat) ↔ a = b := ⟨fun h => UInt8.toNat_inj.1 (by omega),fun h => by rw [h]⟩
set_option maxRecDepth 100000 in
theorem target_any (H : Hp) (f : Ft) (c : Cp) (ps : List Str) (n : Str) (a b : UInt8) (cs : List Value) (hs : RsR H f c ps cs) (w : World) (hA : Agr H w) :
 Calls Tryz.prog 96 #[.agg cs.toArray,strV n,.int .i64 (a.toNat : Nat),.int .i64 (b.toNat : Nat)] w fun r w' => r = .returned (.agg (rV (tgR ⟨f.flags,c.vars,ps⟩ n a b)).toArray) ∧ Ext w w' := by
 obtain ⟨p1,c1,p2,c2,p3,c3,q1,d1,q2,d2,p5,c5,rfl,k1,k2,k3⟩ := hs.ex;have hcap1 := k1.cap;have hcap2 := k2.cap;have hcap3 := k3.cap;cases hv : varF c.vars n with
 | none =>
  have hix : ixI (fun x : Vr => decide (x.nm = n)) c.vars = -1 := ixI_none (by rw [List.any_eq_false];exact List.find?_eq_none.1 hv);refine Sx.enter (H := H) Tryz.func96 rfl Tryz.ntmps96 rfl hA ?_;refine .sr<|.bx Z Z Z fun b4 => .al Fx.zero72 Z fun b8 => .ns<|.yv (.fieldAddr Z Fx.field143_1) Z<|.yv (.loadS (vs := [_,_,_]) Z Fx.agg78 (.tail _<|.head _) Z (subL Z)) Z<|.yv (.fieldAddr Z Fx.field143_1) Z<|.yv (.fieldAddr Z Fx.field78_1) Z<|.yv (.load Z Fx.agg75 (.tail _<|.head _) Z) Z<|.yv (.lenSl Fx.sl75 Z) Z<|.m Z Z<|.yv (.cast (v' := .int .i64 (-1)) (.call Fx.call35 Z (fun W s => variableR_any H _ _ c.vars n c.vars.length (Nat.le_refl _) _ _ k2 W s.agr)) (by rw [List.take_length,hix])) Z<|.a Z Z<|.nt<|.sq<|.sr<|.yv (.fieldAddr Z Fx.field143_2) Z<|.yv (.load Z Fx.agg54 (.tail _<|.head _) Z) Z<|.m Z Z<|.yv (.call Fx.call73 Z (fun W s => has_any H ps n _ k3 W s.agr)) Z<|.m Z Z<|.b2 (fun h23 => ?_) (fun h23 => ?_)
  ·have hp := h23;refine .gF Z Z Z Z<|.gF Z Z Z Z<|.gF Z Z Z Z<|.gU Z Z Z<|.gU Z Z Z<|.gU Z Z Z<|.gU Z Z Z<|.gU Z Z Z<|.gU Z Z Z<|.gU Z Z Z<|.gU Z Z Z<|.gF Z Z Z Z<|.yv (.pickT Z Z) Z<|.nt<|.cT Z<|.sr<|.m Z Z<|.yv (.build Z (Fx.bld72_0_1_2 _ _ _)) Z<|.sW .head Z Z Fx.size72 (by simp [rV,Value.oneCell',strV]) Z<|.nt<|.rt<|.tR<|?_
   refine Sx.ret1 (.inl rfl) rfl (.cell rfl Fx.agg72 (.head _) rfl) fun W s => ⟨?_,s.ext⟩
   first
    | (rw [tgR,if_pos hp];rfl)
    | (rw [tgR,if_neg hp,hv];simp only;rw [if_pos hf];rfl)
    | (rw [tgR,if_neg hp,hv];simp only;rw [if_neg hf];rfl)
  have hp : ¬ hasB ps n = true := by rw [h23];decide
  refine .gd Z Z<|.yv (.move Z) Z<|.gd Z Z<|.yv (.cast (v' := .bool true) (.lss Z Z) (by rfl)) Z<|.gd Z Z<|.yv (.move Z) Z<|.gd Z Z<|.yv (.fieldAddr Z Fx.field143_0) Z<|.gd Z Z<|.yv (.loadS (vs := [_,_,_,_]) Z Fx.agg31 (.tail _<|.head _) Z (subL Z)) Z<|.gd Z Z<|.yv (.fieldAddr Z Fx.field143_0) Z<|.gd Z Z<|.yv (.fieldAddr Z Fx.field31_1) Z<|.gd Z Z<|.yv (.load Z Fx.agg27 (.tail _<|.head _) Z) Z<|.gd Z Z<|.yv (.lenSl Fx.sl27 Z) Z<|.gd Z Z<|.yv (.move Z) Z<|.gd Z Z<|.yv (.call Fx.call33 Z (fun W s => flagR_any H _ _ _ f.flags n f.flags.length (Nat.le_refl _) _ _ k1 W s.agr)) Z<|.gd Z Z<|.yv (.pickT Z Z) Z<|.yv (.pickF Z Z) Z<|.nt<|.cd Z (fun h36 => ?_) (fun h36 => ?_)
  ·have hf := h36;rw [List.take_length] at hf;refine .sr<|.m Z Z<|.yv (.build Z (Fx.bld72_0_1_2 _ _ _)) Z<|.sW .head Z Z Fx.size72 (by simp [rV,Value.oneCell',strV]) Z<|.nt<|.rt<|.tR<|?_
   refine Sx.ret1 (.inl rfl) rfl (.cell rfl Fx.agg72 (.head _) rfl) fun W s => ⟨?_,s.ext⟩
   first
    | (rw [tgR,if_pos hp];rfl)
    | (rw [tgR,if_neg hp,hv];simp only;rw [if_pos hf];rfl)
    | (rw [tgR,if_neg hp,hv];simp only;rw [if_neg hf];rfl)
  have hf : ¬ flagB f.flags n = true := by have h := h36;rw [List.take_length] at h;rw [h];decide
  refine .sk<|.tN<|.sq<|.sr<|.m Z Z<|.yv (.cast (v' := .bool true) (.lss Z Z) (by rfl)) Z<|.nt<|.cT Z<|.sr<|.m Z Z<|.yv (.build Z (Fx.bld72_0_1_2 _ _ _)) Z<|.sW .head Z Z Fx.size72 (by simp [rV,Value.oneCell',strV]) Z<|.nt<|.rt<|.tR<|?_
  refine Sx.ret1 (.inl rfl) rfl (.cell rfl Fx.agg72 (.head _) rfl) fun W s => ⟨?_,s.ext⟩
  first
   | (rw [tgR,if_pos hp];rfl)
   | (rw [tgR,if_neg hp,hv];simp only;rw [if_pos hf];rfl)
   | (rw [tgR,if_neg hp,hv];simp only;rw [if_neg hf];rfl)
 | some v =>
  obtain ⟨k,hk,hix,hve,_⟩ := find_ix hv;subst hve;obtain ⟨bE,oE,cE,hpE,rE,lE,mE⟩ := k2.elem (map_at (f := dVr .i64) hk);cases hpE;obtain ⟨rfl,_⟩ := vr_open rE;refine Sx.enter (H := H) Tryz.func96 rfl Tryz.ntmps96 rfl hA ?_;refine .sr<|.bx Z Z Z fun b4 => .al Fx.zero72 Z fun b8 => .ns<|.yv (.fieldAddr Z Fx.field143_1) Z<|.yv (.loadS (vs := [_,_,_]) Z Fx.agg78 (.tail _<|.head _) Z (subL Z)) Z<|.yv (.fieldAddr Z Fx.field143_1) Z<|.yv (.fieldAddr Z Fx.field78_1) Z<|.yv (.load Z Fx.agg75 (.tail _<|.head _) Z) Z<|.yv (.lenSl Fx.sl75 Z) Z<|.m Z Z<|.yv (.cast (v' := .int .i64 (k : Nat)) (.call Fx.call35 Z (fun W s => variableR_any H _ _ c.vars n c.vars.length (Nat.le_refl _) _ _ k2 W s.agr)) (by rw [List.take_length,hix])) Z<|.a Z Z<|.nt<|.sq<|.sr<|.yv (.fieldAddr Z Fx.field143_2) Z<|.yv (.load Z Fx.agg54 (.tail _<|.head _) Z) Z<|.m Z Z<|.yv (.call Fx.call73 Z (fun W s => has_any H ps n _ k3 W s.agr)) Z<|.m Z Z<|.b2 (fun h23 => ?_) (fun h23 => ?_)
  ·have hp := h23;refine .gF Z Z Z Z<|.gF Z Z Z Z<|.gF Z Z Z Z<|.gU Z Z Z<|.gU Z Z Z<|.gU Z Z Z<|.gU Z Z Z<|.gU Z Z Z<|.gU Z Z Z<|.gU Z Z Z<|.gU Z Z Z<|.gF Z Z Z Z<|.yv (.pickT Z Z) Z<|.nt<|.cT Z<|.sr<|.m Z Z<|.yv (.build Z (Fx.bld72_0_1_2 _ _ _)) Z<|.sW .head Z Z Fx.size72 (by simp [rV,Value.oneCell',strV]) Z<|.nt<|.rt<|.tR<|?_
   refine Sx.ret1 (.inl rfl) rfl (.cell rfl Fx.agg72 (.head _) rfl) fun W s => ⟨?_,s.ext⟩
   first
    | (rw [tgR,if_pos hp];rfl)
    | (rw [tgR,if_neg hp,hv];simp only;rw [if_neg yo];rfl)
    | (rw [tgR,if_neg hp,hv];simp only;rw [if_pos yo];rfl)
  have hp : ¬ hasB ps n = true := by rw [h23];decide
  refine .gd Z Z<|.yv (.move Z) Z<|.gd Z Z<|.yv (.cast (v' := .bool false) (.lss Z Z) (by simp)) Z<|.gd Z Z<|.yv (.move Z) Z<|.gF Z Z Z Z<|.gF Z Z Z Z<|.gF Z Z Z Z<|.gF Z Z Z Z<|.gF Z Z Z Z<|.gF Z Z Z Z<|.gF Z Z Z Z<|.gF Z Z Z Z<|.gd Z Z<|.yv (.pickF Z Z) Z<|.yv (.pickF Z Z) Z<|.nt<|.cF Z<|.sk<|.tN<|.sq<|.sr<|.m Z Z<|.yv (.cast (v' := .bool false) (.lss Z Z) (by simp)) Z<|.nt<|.cF Z<|.sk<|.tN<|.sr<|.yv (.fieldAddr Z Fx.field143_1) Z<|.yv (.fieldAddr Z Fx.field78_1) Z<|.yv (.load Z Fx.agg75 (.tail _<|.head _) Z) Z<|.m Z Z<|.yv (.indexSl Fx.sl75 Z Z Z (by omega) (q := oE + k * 3) Z) Z<|.yv (.fieldAddr Z Fx.field98_1) Z<|.yv (.loadM Z Fx.agg3 mE (k := 1) Z Z) Z<|.a Z Z<|.nt<|.sq<|.sr<|.m Z Z<|.m Z Z<|.yv (.neq Z Z) Z<|.m Z Z<|.b2 (fun h53 => ?_) (fun h53 => ?_)
  ·have na : ¬ c.vars[k].ty = a := fun e => (of_decide_eq_true h53) (u8eq.2 e);refine .gd Z Z<|.yv (.move Z) Z<|.gd Z Z<|.yv (.move Z) Z<|.gd Z Z<|.yv (.neq Z Z) Z<|.yv (.pickT Z Z) Z<|.nt<|.cd Z (fun h57 => ?_) (fun h57 => ?_)
   ·have yo : ¬ (c.vars[k].ty = a ∨ c.vars[k].ty = b) := fun h => h.elim na fun e => (of_decide_eq_true h57) (u8eq.2 e);refine .sr<|.m Z Z<|.yv (.build Z (Fx.bld72_0_1_2 _ _ _)) Z<|.sW .head Z Z Fx.size72 (by simp [rV,Value.oneCell',strV]) Z<|.nt<|.rt<|.tR<|?_
    refine Sx.ret1 (.inl rfl) rfl (.cell rfl Fx.agg72 (.head _) rfl) fun W s => ⟨?_,s.ext⟩
    first
     | (rw [tgR,if_pos hp];rfl)
     | (rw [tgR,if_neg hp,hv];simp only;rw [if_neg yo];rfl)
     | (rw [tgR,if_neg hp,hv];simp only;rw [if_pos yo];rfl)
   have yo : c.vars[k].ty = a ∨ c.vars[k].ty = b := .inr<|u8eq.1 (Decidable.not_not.1 (of_decide_eq_false h57))
   refine .sk<|.tN<|.sr<|.m Z Z<|.yv (.build Z (Fx.bld72_0 _)) Z<|.sW .head Z Z Fx.size72 (by simp [rV,Value.oneCell',strV]) Z<|.nt<|.rt<|?_
   refine Sx.ret1 (.inl rfl) rfl (.cell rfl Fx.agg72 (.head _) rfl) fun W s => ⟨?_,s.ext⟩
   first
    | (rw [tgR,if_pos hp];rfl)
    | (rw [tgR,if_neg hp,hv];simp only;rw [if_neg yo];rfl)
    | (rw [tgR,if_neg hp,hv];simp only;rw [if_pos yo];rfl)
  have yo : c.vars[k].ty = a ∨ c.vars[k].ty = b := .inl<|u8eq.1 (Decidable.not_not.1 (of_decide_eq_false h53))
  refine .gF Z Z Z Z<|.gF Z Z Z Z<|.gF Z Z Z Z<|.yv (.pickF Z Z) Z<|.nt<|.cF Z<|.sk<|.tN<|.sr<|.m Z Z<|.yv (.build Z (Fx.bld72_0 _)) Z<|.sW .head Z Z Fx.size72 (by simp [rV,Value.oneCell',strV]) Z<|.nt<|.rt<|?_
  refine Sx.ret1 (.inl rfl) rfl (.cell rfl Fx.agg72 (.head _) rfl) fun W s => ⟨?_,s.ext⟩
  first
   | (rw [tgR,if_pos hp];rfl)
   | (rw [tgR,if_neg hp,hv];simp only;rw [if_neg yo];rfl)
   | (rw [tgR,if_neg hp,hv];simp only;rw [if_pos yo];rfl)
set_option maxRecDepth 100000 in
theorem numbers_any (H : Hp) (f : Ft) (c : Cp) (ps : List Str) (l : List Ex) (v : Value) (cs : List Value) (hs : RsR H f c ps cs) (hl : Rep H (.seq 4 (l.map (dEx .i64))) [v]) (hfr : ∀ e ∈ l,Ex.all frmE e = true) (w : World) (hA : Agr H w) :
 Calls Tryz.prog 97 #[.agg cs.toArray,v] w fun r w' => r = .returned (.agg (rV (nmR ⟨f.flags,c.vars,ps⟩ l)).toArray) ∧ Ext w w' := by
 have hs0 := hs;obtain ⟨p1,c1,p2,c2,p3,c3,q1,d1,q2,d2,p5,c5,rfl,k1,k2,k3⟩ := hs0.ex;obtain ⟨pl,cl,el,_⟩ := hl.sl;simp only [List.cons.injEq,and_true,List.length_map] at el;subst el;have hcap := hl.cap;refine Sx.enter (H := H) Tryz.func97 rfl Tryz.ntmps97 rfl hA ?_;refine .sr<|.bx Z Z Z fun b2 => .al Fx.zero72 Z fun b4 => .nt<|.sq<|.sr<|.m Z Z<|.yv (.lenSl Fx.sl56 Z) Z<|.m Z Z<|.nt<|.bk<|.lp (X := Nat) [(2,_),(4,_),(8,_),(9,_)] ⟨rfl,rfl,rfl,rfl,trivial⟩ [_,_] (fun k => [(10,.int .i64 (k : Nat))]) (fun k => H) (fun k => []) (fun k => k ≤ l.length ∧ nmR ⟨f.flags,c.vars,ps⟩ l = nmR ⟨f.flags,c.vars,ps⟩ (l.drop k)) (fun k => l.length - k) 0 (fun _ s => s) ⟨rfl,trivial⟩ ⟨Nat.zero_le _,rfl⟩ fun k hC => ?_
 obtain ⟨hk0,hal⟩ := hC;refine .sr<|.yv (.lss Z Z) Z<|.nt<|.sq<|.cd Z (fun h11 => ?_) (fun h11 => ?_)
 ·try simp only [dt] at h11
  have hk : k < l.length := by omega
  have hfe := hfr _ (List.getElem_mem hk);obtain ⟨bE,oE,cE,eE,rE,lE,mE⟩ := hl.elem (map_at hk);cases eE;generalize hxE : l[k] = e at rE hfe;refine .sk<|.tN<|.sq<|.bk<|.sr<|.yv (.indexSl Fx.sl56 Z Z Z (by omega) (q := oE + k * 4) Z) Z<|.yv (.loadMW Z Fx.agg58 mE lE) Z<|.al Fx.zero58 Z fun b6 => .sV .head Z Z Fx.size58 lE rE.one Z<|.ns<|.yv (.loadW Z Fx.agg143 (.tail _<|.tail _<|.head _) Z) Z<|.yv (.loadW Z Fx.agg58 (.head _) lE) Z<|.yv (.call Fx.call49 Z (fun W t => typed_any H f c ps _ hs e hfe _ W rE t.agr)) Z<|.al Fx.zero72 Z fun b7 => .sW .head Z Z Fx.size72 (by simp [rV,Value.oneCell',strV]) Z<|.nt<|.sq<|.sr<|.yv (.fieldAddr Z Fx.field72_1) Z<|.yv (.load Z Fx.agg3 (.head _) Z) Z<|.yv (.neq Z Z) Z<|.nt<|.cd Z (fun h19 => ?_) (fun h19 => ?_)
  ·have her : ¬ (tyR ⟨f.flags,c.vars,ps⟩ e).er = 0 := by have := of_decide_eq_true h19;omega
   refine .sr<|.yv (.loadW Z Fx.agg72 (.head _) Z) Z<|.sW (.tail<|.tail<|.head) Z Z Fx.size72 (by simp [rV,Value.oneCell',strV]) Z<|.nt<|.rt<|.tR<|.bR<|.tR<|.tR<|.bR<|.tR<|?_
   refine Sx.ret1 (.inl rfl) rfl (.cell rfl Fx.agg72 (.tail _<|.tail _<|.head _) rfl) fun W s => ⟨?_,s.ext⟩
   first
    | (rw [hal,List.drop_eq_getElem_cons hk,nmR,hxE,if_pos her])
    | (rw [hal,List.drop_eq_getElem_cons hk,nmR,hxE,if_neg (fun h => h her),if_pos hty];rfl)
    | (rw [hal];rfl)
  have her : (tyR ⟨f.flags,c.vars,ps⟩ e).er = 0 := by have := of_decide_eq_false h19;omega
  refine .sk<|.tN<|.sr<|.yv (.fieldAddr Z Fx.field72_0) Z<|.yv (.load Z Fx.agg3 (.head _) Z) Z<|.yv (.neq Z Z) Z<|.nt<|.cd Z (fun h23 => ?_) (fun h23 => ?_)
  ·have hty : ¬ (tyR ⟨f.flags,c.vars,ps⟩ e).ty = 1 := fun e => by rw [e] at h23;cases h23
   refine .sr<|.yv (.build Z (Fx.bld72_1 _)) Z<|.sW (.tail<|.tail<|.head) Z Z Fx.size72 (by simp [rV,Value.oneCell',strV]) Z<|.nt<|.rt<|.bR<|.tR<|.tR<|.bR<|.tR<|?_
   refine Sx.ret1 (.inl rfl) rfl (.cell rfl Fx.agg72 (.tail _<|.tail _<|.head _) rfl) fun W s => ⟨?_,s.ext⟩
   first
    | (rw [hal,List.drop_eq_getElem_cons hk,nmR,hxE,if_pos her])
    | (rw [hal,List.drop_eq_getElem_cons hk,nmR,hxE,if_neg (fun h => h her),if_pos hty];rfl)
    | (rw [hal];rfl)
  have hty : (tyR ⟨f.flags,c.vars,ps⟩ e).ty = 1 := u8eq.1 (Decidable.not_not.1 (of_decide_eq_false h23));exact .sk<|.bN<|.tN<|.rg<|.yv (.add Z Z (w6 (by omega))) Z<|.m Z Z<|.nt<|.ag (k + 1) ⟨rfl,trivial⟩ ⟨rfl,rfl,rfl,rfl,trivial⟩ (fun _ s => (s.pick [2,3] _ Z Z)) ⟨by omega,by rw [hal,List.drop_eq_getElem_cons hk,nmR,hxE,if_neg (fun h => h her),if_neg (fun h => h hty)]⟩ (by omega)
 try simp only [df] at h11
 obtain rfl : k = l.length := by omega
 rw [List.drop_length] at hal;refine .ex<|.tE<|.tE<|.bE<|.tN<|.sr<|.yv (.build Z Fx.bld72) Z<|.sW .head Z Z Fx.size72 (by simp [rV,Value.oneCell',strV]) Z<|.nt<|.rt<|?_
 refine Sx.ret1 (.inl rfl) rfl (.cell rfl Fx.agg72 (.head _) rfl) fun W s => ⟨?_,s.ext⟩
 first
  | (rw [hal,List.drop_eq_getElem_cons hk,nmR,hxE,if_pos her])
  | (rw [hal,List.drop_eq_getElem_cons hk,nmR,hxE,if_neg (fun h => h her),if_pos hty];rfl)
  | (rw [hal];rfl)
set_option maxRecDepth 100000 in
theorem call_any (H : Hp) (f : Ft) (c : Cp) (ps : List Str) (c2 : Cp) (cs2 : List Value) (h2 : Rep H (dCp .i64 c2) cs2) (n : Str) (l : List Ex) (v : Value) (k : Nat) (hk : k ≤ 1) (cs : List Value) (hs : RsR H f c ps cs) (hl : Rep H (.seq 4 (l.map (dEx .i64))) [v]) (hfr : ∀ e ∈ l,Ex.all frmE e = true) (hpn : ∀ h,hdF c2.vers n = some h → h.ps.length ≤ 1000000) (w : World) (hA : Agr H w) :
 Calls Tryz.prog 98 #[.agg cs.toArray,.agg cs2.toArray,strV n,v,.int .i64 (k : Nat)] w fun r w' => r = .returned (.agg (rV (clR ⟨f.flags,c.vars,ps⟩ c2.vers n l k)).toArray) ∧ Ext w w' := by
 have hs0 := hs;obtain ⟨p1,c1,p2,c2',p3,c3,q1,d1,q2,d2,p5,c5,rfl,k1,k2,k3⟩ := hs0.ex;obtain ⟨q4,d4,q5,d5,rfl,hn2,hv2,hs2⟩ := cp_open h2;obtain ⟨pl,cl,el,_⟩ := hl.sl;simp only [List.cons.injEq,and_true,List.length_map] at el;subst el;have hcap := hl.cap;have hcap2 := hs2.cap;cases hv : hdF c2.vers n with
 | none =>
  refine Sx.enter (H := H) Tryz.func98 rfl Tryz.ntmps98 rfl hA ?_;refine .sr<|.bx Z Z Z fun b5 => .bx Z Z Z fun b6 => .al Fx.zero72 Z fun b10 => .ns<|.yv (.loadW Z Fx.agg78 (.tail _<|.head _) Z) Z<|.yv (.fieldAddr Z Fx.field78_2) Z<|.yv (.load Z Fx.agg76 (.tail _<|.head _) Z) Z<|.yv (.lenSl Fx.sl76 Z) Z<|.m Z Z<|.yv (.cast (v' := .int .i64 (-1)) (.call Fx.call72 Z (fun W t => handlerR_any H c2 _ h2 n c2.vers.length (Nat.le_refl _) W t.agr)) (by rw [List.take_length,hdI,hv])) Z<|.a Z Z<|.nt<|.sq<|.sr<|.m Z Z<|.yv (.cast (v' := .bool true) (.lss Z Z) (by rfl)) Z<|.nt<|.cT Z<|.sr<|.m Z Z<|.yv (.build Z (Fx.bld72_0_1_2 _ _ _)) Z<|.sW .head Z Z Fx.size72 (by simp [rV,Value.oneCell',strV]) Z<|.nt<|.rt<|.tR<|?_
  refine Sx.ret1 (.inl rfl) rfl (.cell rfl Fx.agg72 (.head _) rfl) fun W s => ⟨?_,s.ext⟩
  first
   | (rw [clR,hv];rfl)
 | some h =>
  have hpl : h.ps.length ≤ 1000000 := hpn h hv;refine Sx.enter (H := H) Tryz.func98 rfl Tryz.ntmps98 rfl hA ?_;refine .sr<|.bx Z Z Z fun b5 => .bx Z Z Z fun b6 => .al Fx.zero72 Z fun b10 => .ns<|.yv (.loadW Z Fx.agg78 (.tail _<|.head _) Z) Z<|.yv (.fieldAddr Z Fx.field78_2) Z<|.yv (.load Z Fx.agg76 (.tail _<|.head _) Z) Z<|.yv (.lenSl Fx.sl76 Z) Z<|.m Z Z<|.yv (.cast (v' := .int .i64 (h.ps.length : Nat)) (.call Fx.call72 Z (fun W t => handlerR_any H c2 _ h2 n c2.vers.length (Nat.le_refl _) W t.agr)) (by rw [List.take_length,hdI,hv])) Z<|.a Z Z<|.nt<|.sq<|.sr<|.m Z Z<|.yv (.cast (v' := .bool false) (.lss Z Z) (by simp)) Z<|.nt<|.cF Z<|.sk<|.tN<|.sq<|.sr<|.m Z Z<|.yv (.lenSl Fx.sl56 Z) Z<|.m Z Z<|.m Z Z<|.yv (.add Z Z (c := ((h.ps.length + k : Nat) : Int)) ((w6 (by omega)).trans (by omega))) Z<|.yv (.neq Z Z) Z<|.nt<|.cd Z (fun h27 => ?_) (fun h27 => ?_)
  ·have hne : ¬ l.length = h.ps.length + k := by have := of_decide_eq_true h27;omega
   refine .sr<|.m Z Z<|.yv (.build Z (Fx.bld72_0_1_2 _ _ _)) Z<|.sW .head Z Z Fx.size72 (by simp [rV,Value.oneCell',strV]) Z<|.nt<|.rt<|.tR<|?_
   refine Sx.ret1 (.inl rfl) rfl (.cell rfl Fx.agg72 (.head _) rfl) fun W s => ⟨?_,s.ext⟩
   first
    | (rw [clR,hv];simp only;rw [if_pos hne];rfl)
    | (rw [clR,hv];simp only;rw [if_neg (fun h => h hne)])
  have hne : l.length = h.ps.length + k := by have := Decidable.not_not.1 (of_decide_eq_false h27);omega
  refine .sk<|.tN<|.sr<|.yv (.loadW Z Fx.agg143 (.tail _<|.tail _<|.head _) Z) Z<|.m Z Z<|.yv (.call Fx.call97 Z (fun W t => numbers_any H f c ps l _ _ hs hl hfr W t.agr)) Z<|.sW .head Z Z Fx.size72 (by simp [rV,Value.oneCell',strV]) Z<|.nt<|.rt<|?_
  refine Sx.ret1 (.inl rfl) rfl (.cell rfl Fx.agg72 (.head _) rfl) fun W s => ⟨?_,s.ext⟩
  first
   | (rw [clR,hv];simp only;rw [if_pos hne];rfl)
   | (rw [clR,hv];simp only;rw [if_neg (fun h => h hne)])
theorem Fx.call34 : callN Tryz.prog 34 = Bool.true := by kernel_rfl
theorem Fx.call96 : callN Tryz.prog 96 = Bool.true := by kernel_rfl
theorem Fx.call98 : callN Tryz.prog 98 = Bool.true := by kernel_rfl
theorem ixI_some {α : Type} {q : α → Bool} {l : List α} (h : ¬ ixI q l < 0) : ∃ (k : Nat) (hk : k < l.length),ixI q l = (k : Nat) ∧ l.find? q = some l[k] := by
 cases e : l.find? q with
 | none =>
  rw [ixI_none (by rw [List.any_eq_false];exact List.find?_eq_none.1 e)] at h;exact (h (by decide)).elim
 | some a =>
  obtain ⟨k,hk,h1,h2,_⟩ := find_ix e;exact ⟨k,hk,h1,by rw [h2]⟩
theorem ixI_no {α : Type} {q : α → Bool} {l : List α} (h : ixI q l < 0) : l.find? q = none := by
 cases e : l.find? q with
 | none => rfl
 | some a =>
  obtain ⟨k,hk,h1,h2,_⟩ := find_ix e;rw [h1] at h;omega
def exR (s : Sc) : List Ex → Tr
 | e :: _ => tyR s e
 | [] => ⟨0,[],0⟩
def oneR (cs : List Cp) (own : List (List Hd)) (s : Sc) : Sm → Tr
 | .mk kd nm hd ex _ _ =>
  if kd = 1 then (if ¬ (tgR s nm 1 2).er = 0 then tgR s nm 1 2 else if (exR s ex).er = 0 ∧ ¬ (exR s ex).ty = (tgR s nm 1 2).ty then ⟨0,[],10⟩ else exR s ex)
  else if kd = 2 ∨ kd = 3 then (if ¬ (tgR s nm 3 3).er = 0 then tgR s nm 3 3 else nmR s ex)
  else if kd = 4 ∨ kd = 5 then (if (exR s ex).er = 0 ∧ ¬ (exR s ex).ty = 2 then ⟨0,[],10⟩ else exR s ex)
  else if kd = 6 then (match cpF cs nm with | none => ⟨0,nm,9⟩ | some c => clR s c.vers hd ex 0)
  else if kd = 7 then clR s own hd ex 1
  else if kd = 8 then nmR s ex
  else if kd = 9 then (if ¬ (tgR s nm 1 1).er = 0 then tgR s nm 1 1 else nmR s ex)
  else ⟨0,[],0⟩
theorem one_ex {kd : UInt8} {nm hd : Str} {ex : List Ex} {th el : List Sm} (h : frmS (.mk kd nm hd ex th el) = true) (k : kd = 1 ∨ kd = 4 ∨ kd = 5) : 0 < ex.length := by
 simp only [frmS,Bool.and_eq_true,decide_eq_true_eq] at h;have h1 := h.1.1.1.1.1.1.2;have e : (formOf kd).lo = 1 := by rcases k with rfl | rfl | rfl <;> decide
 omega
set_option maxRecDepth 100000 in
theorem one_any (H : Hp) (f : Ft) (c : Cp) (ps : List Str) (x : Sm) (cs cx : List Value) (hs : RsF H f c ps cs) (hx : Rep H (dSm .i64 x) cx) (hfm : frmS x = true) (hpf : ∀ c2 ∈ f.comps,∀ n h,hdF c2.vers n = some h → h.ps.length ≤ 1000000) (hpc : ∀ n h,hdF c.vers n = some h → h.ps.length ≤ 1000000) (w : World) (hA : Agr H w) :
 Calls Tryz.prog 74 #[.agg cs.toArray,.agg cx.toArray] w fun r w' => r = .returned (.agg (rV (oneR f.comps c.vers ⟨f.flags,c.vars,ps⟩ x)).toArray) ∧ Ext w w' := by
 have hsr := hs.r;obtain ⟨p1,c1,p2,c2,p3,c3,q1,d1,q2,d2,p5,c5,rfl,k1,k2,k3⟩ := hs.ex;obtain ⟨_,_,_,_,_,_,e1,_,_,_,hcs3⟩ := ft_open k1;simp only [List.cons.injEq,Value.slice.injEq,and_true,true_and] at e1;obtain ⟨-,-,rfl,rfl⟩ := e1;have hcap3 := hcs3.cap;obtain ⟨kd,nm,hd,ex,th,el⟩ := x;obtain ⟨p6,c6,p7,c7,p8,c8,rfl,hex,_,_,_,_⟩ := sm_open hx;have hce := hex.cap
 have hfr : ∀ e ∈ ex,Ex.all frmE e = true := by
  simp only [frmS,Bool.and_eq_true] at hfm;exact ealls_mem hfm.2
 refine Sx.enter (H := H) Tryz.func74 rfl Tryz.ntmps74 rfl hA ?_;refine .sr<|.bx Z Z Z fun b2 => .bx Z Z Z fun b3 => .al Fx.zero72 Z fun b4 => .nt<|.sq<|.sr<|.yv (.fieldAddr Z Fx.field85_0) Z<|.yv (.load Z Fx.agg3 (.tail _<|.head _) Z) Z<|.nt<|.bk<|.sr<|.yv (.eql Z Z) Z<|.a Z Z<|.nt<|.cr Z (fun h13 => ?_) (fun h13 => ?_)
 ·have e14 : kd = 1 := (u8n (k := 1) (by decide)).1 (of_decide_eq_true h13);have h0 : 0 < ex.length := one_ex hfm (.inl e14);obtain ⟨bE,oE,csE,eE,rE,lE,mE⟩ := hex.elem (map_at h0);cases eE;have hxE : exR ⟨f.flags,c.vars,ps⟩ ex = tyR ⟨f.flags,c.vars,ps⟩ ex[0] := by cases ex with | nil => cases h0 | cons _ _ => rfl
  have hfe := hfr _ (List.getElem_mem h0);generalize ex[0] = e at rE hfe hxE;refine .sr<|.yv (.loadW Z Fx.agg143 (.tail _<|.tail _<|.head _) Z) Z<|.yv (.fieldAddr Z Fx.field85_1) Z<|.yv (.load Z Fx.agg9 (.tail _<|.head _) Z) Z<|.yv (.call Fx.call96 Z (fun W t => target_any H f c ps nm 1 2 _ hsr W t.agr)) Z<|.al Fx.zero72 Z fun b5 => .sW .head Z Z Fx.size72 (by simp [rV,Value.oneCell',strV]) Z<|.nt<|.sq<|.sr<|.yv (.fieldAddr Z Fx.field72_1) Z<|.yv (.load Z Fx.agg3 (.head _) Z) Z<|.yv (.neq Z Z) Z<|.nt<|.cd Z (fun h21 => ?_) (fun h21 => ?_)
  ·have ht : ¬ (tgR ⟨f.flags,c.vars,ps⟩ nm 1 2).er = 0 := by have := of_decide_eq_true h21;omega
   refine .sr<|.yv (.loadW Z Fx.agg72 (.head _) Z) Z<|.sW (.tail<|.head) Z Z Fx.size72 (by simp [rV,Value.oneCell',strV]) Z<|.nt<|.rt<|.tR<|.bR<|.tR<|?_
   refine Sx.ret1 (.inl rfl) rfl (.cell rfl Fx.agg72 (.tail _<|.head _) rfl) fun W s => ⟨?_,s.ext⟩;rw [oneR,if_pos e14,if_pos ht]
  have ht : (tgR ⟨f.flags,c.vars,ps⟩ nm 1 2).er = 0 := by have := of_decide_eq_false h21;omega
  refine .sk<|.tN<|.sq<|.fl (trip := [(_,_,_),(_,_,_),(_,_,_),(_,_,_),(_,_,_),(_,_,_),(_,_,_)]) 7 [(0,0),(1,0),(2,0),(3,0),(4,0),(5,0),(6,1)] (by kernel_rfl) (by kernel_rfl) Z<|.yv (.loadW Z Fx.agg143 (.tail _<|.tail _<|.tail _<|.head _) Z) Z<|.yv (.fieldAddr Z Fx.field85_3) Z<|.yv (.load Z Fx.agg56 (.tail _<|.tail _<|.head _) Z) Z<|.yv (.indexSl Fx.sl56 Z Z (i := 0) Z h0 (q := oE + 0 * 4) Z) Z<|.yv (.loadMW Z Fx.agg58 mE lE) Z<|.yv (.call Fx.call49 Z (fun W t => typed_any H f c ps _ hsr e hfe _ W rE t.agr)) Z<|.al Fx.zero72 Z fun b6 => .fn (tl := [_]) Z<|.sW .head Z Z Fx.size72 (by simp [rV,Value.oneCell',strV]) Z<|.nt<|.sq<|.sr<|.yv (.fieldAddr Z Fx.field72_1) Z<|.yv (.load Z Fx.agg3 (.head _) Z) Z<|.yv (.eql Z Z) Z<|.m Z Z<|.b2 (fun h32 => ?_) (fun h32 => ?_)
  ·have hr : (tyR ⟨f.flags,c.vars,ps⟩ e).er = 0 := by have := of_decide_eq_true h32;omega
   refine .gd Z Z<|.yv (.fieldAddr Z Fx.field72_0) Z<|.gd Z Z<|.yv (.load Z Fx.agg3 (.head _) Z) Z<|.gd Z Z<|.yv (.fieldAddr Z Fx.field72_0) Z<|.gd Z Z<|.yv (.load Z Fx.agg3 (.tail _<|.head _) Z) Z<|.gd Z Z<|.yv (.neq Z Z) Z<|.yv (.pickT Z Z) Z<|.nt<|.cd Z (fun h38 => ?_) (fun h38 => ?_)
   ·have hm := fun e => of_decide_eq_true h38 (u8eq.2 e);refine .sr<|.yv (.build Z (Fx.bld72_1 _)) Z<|.sW (.tail<|.tail<|.head) Z Z Fx.size72 (by simp [rV,Value.oneCell',strV]) Z<|.nt<|.rt<|.tR<|.bR<|.tR<|?_
    refine Sx.ret1 (.inl rfl) rfl (.cell rfl Fx.agg72 (.tail _<|.tail _<|.head _) rfl) fun W s => ⟨?_,s.ext⟩;rw [oneR,if_pos e14,if_neg (fun h => h ht),hxE,if_pos ⟨hr,hm⟩];rfl
   have hm := u8eq.1 (Decidable.not_not.1 (of_decide_eq_false h38));refine .sk<|.tN<|.sr<|.yv (.loadW Z Fx.agg72 (.head _) Z) Z<|.sW (.tail<|.tail<|.head) Z Z Fx.size72 (by simp [rV,Value.oneCell',strV]) Z<|.nt<|.rt<|.bR<|.tR<|?_
   refine Sx.ret1 (.inl rfl) rfl (.cell rfl Fx.agg72 (.tail _<|.tail _<|.head _) rfl) fun W s => ⟨?_,s.ext⟩;rw [oneR,if_pos e14,if_neg (fun h => h ht),hxE,if_neg (fun h => h.2 hm)]
  have hr : ¬ (tyR ⟨f.flags,c.vars,ps⟩ e).er = 0 := by have := of_decide_eq_false h32;omega
  refine .gF Z Z Z Z<|.gF Z Z Z Z<|.gF Z Z Z Z<|.gF Z Z Z Z<|.gF Z Z Z Z<|.yv (.pickF Z Z) Z<|.nt<|.cF Z<|.sk<|.tN<|.sr<|.yv (.loadW Z Fx.agg72 (.head _) Z) Z<|.sW (.tail<|.tail<|.head) Z Z Fx.size72 (by simp [rV,Value.oneCell',strV]) Z<|.nt<|.rt<|.bR<|.tR<|?_
  refine Sx.ret1 (.inl rfl) rfl (.cell rfl Fx.agg72 (.tail _<|.tail _<|.head _) rfl) fun W s => ⟨?_,s.ext⟩;rw [oneR,if_pos e14,if_neg (fun h => h ht),hxE,if_neg (fun h => hr h.1)]
 have e14 : ¬ kd = 1 := fun e => of_decide_eq_false h13 ((u8n (k := 1) (by decide)).2 e);refine .sq<|.sr<|.yv (.eql Z Z) Z<|.a Z Z<|.nt<|.cr Z (fun h41 => ?_) (fun h41 => ?_)
 ·have e42 : kd = 2 := (u8n (k := 2) (by decide)).1 (of_decide_eq_true h41);refine .sk<|.tN<|.cT Z<|.sr<|.yv (.loadW Z Fx.agg143 (.tail _<|.tail _<|.head _) Z) Z<|.yv (.fieldAddr Z Fx.field85_1) Z<|.yv (.load Z Fx.agg9 (.tail _<|.head _) Z) Z<|.yv (.call Fx.call96 Z (fun W t => target_any H f c ps nm 3 3 _ hsr W t.agr)) Z<|.al Fx.zero72 Z fun b7 => .sW .head Z Z Fx.size72 (by simp [rV,Value.oneCell',strV]) Z<|.nt<|.sq<|.sr<|.yv (.fieldAddr Z Fx.field72_1) Z<|.yv (.load Z Fx.agg3 (.head _) Z) Z<|.yv (.neq Z Z) Z<|.nt<|.cd Z (fun h50 => ?_) (fun h50 => ?_)
  ·have ht : ¬ (tgR ⟨f.flags,c.vars,ps⟩ nm 3 3).er = 0 := by have := of_decide_eq_true h50;omega
   refine .sr<|.yv (.loadW Z Fx.agg72 (.head _) Z) Z<|.sW (.tail<|.head) Z Z Fx.size72 (by simp [rV,Value.oneCell',strV]) Z<|.nt<|.rt<|.tR<|.bR<|.tR<|?_
   refine Sx.ret1 (.inl rfl) rfl (.cell rfl Fx.agg72 (.tail _<|.head _) rfl) fun W s => ⟨?_,s.ext⟩;rw [oneR,if_neg e14,if_pos (.inl e42),if_pos ht]
  have ht : (tgR ⟨f.flags,c.vars,ps⟩ nm 3 3).er = 0 := by have := of_decide_eq_false h50;omega
  refine .sk<|.tN<|.sr<|.yv (.loadW Z Fx.agg143 (.tail _<|.tail _<|.tail _<|.head _) Z) Z<|.yv (.fieldAddr Z Fx.field85_3) Z<|.yv (.load Z Fx.agg56 (.tail _<|.tail _<|.head _) Z) Z<|.yv (.call Fx.call97 Z (fun W t => numbers_any H f c ps ex _ _ hsr hex hfr W t.agr)) Z<|.sW (.tail<|.head) Z Z Fx.size72 (by simp [rV,Value.oneCell',strV]) Z<|.nt<|.rt<|.bR<|.tR<|?_
  refine Sx.ret1 (.inl rfl) rfl (.cell rfl Fx.agg72 (.tail _<|.head _) rfl) fun W s => ⟨?_,s.ext⟩;rw [oneR,if_neg e14,if_pos (.inl e42),if_neg (fun h => h ht)]
 have e42 : ¬ kd = 2 := fun e => of_decide_eq_false h41 ((u8n (k := 2) (by decide)).2 e);refine .rg<|.yv (.eql Z Z) Z<|.a Z Z<|.nt<|.cr Z (fun h41 => ?_) (fun h41 => ?_)
 ·have e43 : kd = 3 := (u8n (k := 3) (by decide)).1 (of_decide_eq_true h41);refine .sr<|.yv (.loadW Z Fx.agg143 (.tail _<|.tail _<|.head _) Z) Z<|.yv (.fieldAddr Z Fx.field85_1) Z<|.yv (.load Z Fx.agg9 (.tail _<|.head _) Z) Z<|.yv (.call Fx.call96 Z (fun W t => target_any H f c ps nm 3 3 _ hsr W t.agr)) Z<|.al Fx.zero72 Z fun b7 => .sW .head Z Z Fx.size72 (by simp [rV,Value.oneCell',strV]) Z<|.nt<|.sq<|.sr<|.yv (.fieldAddr Z Fx.field72_1) Z<|.yv (.load Z Fx.agg3 (.head _) Z) Z<|.yv (.neq Z Z) Z<|.nt<|.cd Z (fun h50 => ?_) (fun h50 => ?_)
  ·have ht : ¬ (tgR ⟨f.flags,c.vars,ps⟩ nm 3 3).er = 0 := by have := of_decide_eq_true h50;omega
   refine .sr<|.yv (.loadW Z Fx.agg72 (.head _) Z) Z<|.sW (.tail<|.head) Z Z Fx.size72 (by simp [rV,Value.oneCell',strV]) Z<|.nt<|.rt<|.tR<|.bR<|.tR<|?_
   refine Sx.ret1 (.inl rfl) rfl (.cell rfl Fx.agg72 (.tail _<|.head _) rfl) fun W s => ⟨?_,s.ext⟩;rw [oneR,if_neg e14,if_pos (.inr e43),if_pos ht]
  have ht : (tgR ⟨f.flags,c.vars,ps⟩ nm 3 3).er = 0 := by have := of_decide_eq_false h50;omega
  refine .sk<|.tN<|.sr<|.yv (.loadW Z Fx.agg143 (.tail _<|.tail _<|.tail _<|.head _) Z) Z<|.yv (.fieldAddr Z Fx.field85_3) Z<|.yv (.load Z Fx.agg56 (.tail _<|.tail _<|.head _) Z) Z<|.yv (.call Fx.call97 Z (fun W t => numbers_any H f c ps ex _ _ hsr hex hfr W t.agr)) Z<|.sW (.tail<|.head) Z Z Fx.size72 (by simp [rV,Value.oneCell',strV]) Z<|.nt<|.rt<|.bR<|.tR<|?_
  refine Sx.ret1 (.inl rfl) rfl (.cell rfl Fx.agg72 (.tail _<|.head _) rfl) fun W s => ⟨?_,s.ext⟩;rw [oneR,if_neg e14,if_pos (.inr e43),if_neg (fun h => h ht)]
 have e43 : ¬ kd = 3 := fun e => of_decide_eq_false h41 ((u8n (k := 3) (by decide)).2 e);refine .sq<|.sr<|.yv (.eql Z Z) Z<|.a Z Z<|.nt<|.cr Z (fun h56 => ?_) (fun h56 => ?_)
 ·have e57 : kd = 4 := (u8n (k := 4) (by decide)).1 (of_decide_eq_true h56);have h0 : 0 < ex.length := one_ex hfm (.inr (.inl e57));obtain ⟨bE,oE,csE,eE,rE,lE,mE⟩ := hex.elem (map_at h0);cases eE;have hxE : exR ⟨f.flags,c.vars,ps⟩ ex = tyR ⟨f.flags,c.vars,ps⟩ ex[0] := by cases ex with | nil => cases h0 | cons _ _ => rfl
  have hfe := hfr _ (List.getElem_mem h0);generalize ex[0] = e at rE hfe hxE;refine .sk<|.tN<|.cT Z<|.sq<|.fl (trip := [(_,_,_),(_,_,_),(_,_,_),(_,_,_),(_,_,_),(_,_,_),(_,_,_)]) 7 [(0,0),(1,0),(2,0),(3,0),(4,0),(5,0),(6,1)] (by kernel_rfl) (by kernel_rfl) Z<|.yv (.loadW Z Fx.agg143 (.tail _<|.tail _<|.head _) Z) Z<|.yv (.fieldAddr Z Fx.field85_3) Z<|.yv (.load Z Fx.agg56 (.tail _<|.head _) Z) Z<|.yv (.indexSl Fx.sl56 Z Z (i := 0) Z h0 (q := oE + 0 * 4) Z) Z<|.yv (.loadMW Z Fx.agg58 mE lE) Z<|.yv (.call Fx.call49 Z (fun W t => typed_any H f c ps _ hsr e hfe _ W rE t.agr)) Z<|.al Fx.zero72 Z fun b8 => .fn (tl := [_]) Z<|.sW .head Z Z Fx.size72 (by simp [rV,Value.oneCell',strV]) Z<|.nt<|.sq<|.sr<|.yv (.fieldAddr Z Fx.field72_1) Z<|.yv (.load Z Fx.agg3 (.head _) Z) Z<|.yv (.eql Z Z) Z<|.m Z Z<|.b2 (fun h68 => ?_) (fun h68 => ?_)
  ·have hr : (tyR ⟨f.flags,c.vars,ps⟩ e).er = 0 := by have := of_decide_eq_true h68;omega
   refine .gd Z Z<|.yv (.fieldAddr Z Fx.field72_0) Z<|.gd Z Z<|.yv (.load Z Fx.agg3 (.head _) Z) Z<|.gd Z Z<|.yv (.neq Z Z) Z<|.yv (.pickT Z Z) Z<|.nt<|.cd Z (fun h72 => ?_) (fun h72 => ?_)
   ·have hm : ¬ (tyR ⟨f.flags,c.vars,ps⟩ e).ty = 2 := fun e => of_decide_eq_true h72 ((u8n (k := 2) (by decide)).2 e);refine .sr<|.yv (.build Z (Fx.bld72_1 _)) Z<|.sW (.tail<|.head) Z Z Fx.size72 (by simp [rV,Value.oneCell',strV]) Z<|.nt<|.rt<|.tR<|.bR<|.tR<|?_
    refine Sx.ret1 (.inl rfl) rfl (.cell rfl Fx.agg72 (.tail _<|.head _) rfl) fun W s => ⟨?_,s.ext⟩;rw [oneR,if_neg e14,if_neg (not_or.2 ⟨e42,e43⟩),if_pos (.inl e57),hxE,if_pos ⟨hr,hm⟩];rfl
   have hm : (tyR ⟨f.flags,c.vars,ps⟩ e).ty = 2 := (u8n (k := 2) (by decide)).1 (Decidable.not_not.1 (of_decide_eq_false h72));refine .sk<|.tN<|.sr<|.yv (.loadW Z Fx.agg72 (.head _) Z) Z<|.sW (.tail<|.head) Z Z Fx.size72 (by simp [rV,Value.oneCell',strV]) Z<|.nt<|.rt<|.bR<|.tR<|?_
   refine Sx.ret1 (.inl rfl) rfl (.cell rfl Fx.agg72 (.tail _<|.head _) rfl) fun W s => ⟨?_,s.ext⟩;rw [oneR,if_neg e14,if_neg (not_or.2 ⟨e42,e43⟩),if_pos (.inl e57),hxE,if_neg (fun h => h.2 hm)]
  have hr : ¬ (tyR ⟨f.flags,c.vars,ps⟩ e).er = 0 := by have := of_decide_eq_false h68;omega
  refine .gF Z Z Z Z<|.gF Z Z Z Z<|.gF Z Z Z Z<|.yv (.pickF Z Z) Z<|.nt<|.cF Z<|.sk<|.tN<|.sr<|.yv (.loadW Z Fx.agg72 (.head _) Z) Z<|.sW (.tail<|.head) Z Z Fx.size72 (by simp [rV,Value.oneCell',strV]) Z<|.nt<|.rt<|.bR<|.tR<|?_
  refine Sx.ret1 (.inl rfl) rfl (.cell rfl Fx.agg72 (.tail _<|.head _) rfl) fun W s => ⟨?_,s.ext⟩;rw [oneR,if_neg e14,if_neg (not_or.2 ⟨e42,e43⟩),if_pos (.inl e57),hxE,if_neg (fun h => hr h.1)]
 have e57 : ¬ kd = 4 := fun e => of_decide_eq_false h56 ((u8n (k := 4) (by decide)).2 e);refine .rg<|.yv (.eql Z Z) Z<|.a Z Z<|.nt<|.cr Z (fun h56 => ?_) (fun h56 => ?_)
 ·have e58 : kd = 5 := (u8n (k := 5) (by decide)).1 (of_decide_eq_true h56);have h0 : 0 < ex.length := one_ex hfm (.inr (.inr e58));obtain ⟨bE,oE,csE,eE,rE,lE,mE⟩ := hex.elem (map_at h0);cases eE;have hxE : exR ⟨f.flags,c.vars,ps⟩ ex = tyR ⟨f.flags,c.vars,ps⟩ ex[0] := by cases ex with | nil => cases h0 | cons _ _ => rfl
  have hfe := hfr _ (List.getElem_mem h0);generalize ex[0] = e at rE hfe hxE;refine .sq<|.fl (trip := [(_,_,_),(_,_,_),(_,_,_),(_,_,_),(_,_,_),(_,_,_),(_,_,_)]) 7 [(0,0),(1,0),(2,0),(3,0),(4,0),(5,0),(6,1)] (by kernel_rfl) (by kernel_rfl) Z<|.yv (.loadW Z Fx.agg143 (.tail _<|.tail _<|.head _) Z) Z<|.yv (.fieldAddr Z Fx.field85_3) Z<|.yv (.load Z Fx.agg56 (.tail _<|.head _) Z) Z<|.yv (.indexSl Fx.sl56 Z Z (i := 0) Z h0 (q := oE + 0 * 4) Z) Z<|.yv (.loadMW Z Fx.agg58 mE lE) Z<|.yv (.call Fx.call49 Z (fun W t => typed_any H f c ps _ hsr e hfe _ W rE t.agr)) Z<|.al Fx.zero72 Z fun b8 => .fn (tl := [_]) Z<|.sW .head Z Z Fx.size72 (by simp [rV,Value.oneCell',strV]) Z<|.nt<|.sq<|.sr<|.yv (.fieldAddr Z Fx.field72_1) Z<|.yv (.load Z Fx.agg3 (.head _) Z) Z<|.yv (.eql Z Z) Z<|.m Z Z<|.b2 (fun h68 => ?_) (fun h68 => ?_)
  ·have hr : (tyR ⟨f.flags,c.vars,ps⟩ e).er = 0 := by have := of_decide_eq_true h68;omega
   refine .gd Z Z<|.yv (.fieldAddr Z Fx.field72_0) Z<|.gd Z Z<|.yv (.load Z Fx.agg3 (.head _) Z) Z<|.gd Z Z<|.yv (.neq Z Z) Z<|.yv (.pickT Z Z) Z<|.nt<|.cd Z (fun h72 => ?_) (fun h72 => ?_)
   ·have hm : ¬ (tyR ⟨f.flags,c.vars,ps⟩ e).ty = 2 := fun e => of_decide_eq_true h72 ((u8n (k := 2) (by decide)).2 e);refine .sr<|.yv (.build Z (Fx.bld72_1 _)) Z<|.sW (.tail<|.head) Z Z Fx.size72 (by simp [rV,Value.oneCell',strV]) Z<|.nt<|.rt<|.tR<|.bR<|.tR<|?_
    refine Sx.ret1 (.inl rfl) rfl (.cell rfl Fx.agg72 (.tail _<|.head _) rfl) fun W s => ⟨?_,s.ext⟩;rw [oneR,if_neg e14,if_neg (not_or.2 ⟨e42,e43⟩),if_pos (.inr e58),hxE,if_pos ⟨hr,hm⟩];rfl
   have hm : (tyR ⟨f.flags,c.vars,ps⟩ e).ty = 2 := (u8n (k := 2) (by decide)).1 (Decidable.not_not.1 (of_decide_eq_false h72));refine .sk<|.tN<|.sr<|.yv (.loadW Z Fx.agg72 (.head _) Z) Z<|.sW (.tail<|.head) Z Z Fx.size72 (by simp [rV,Value.oneCell',strV]) Z<|.nt<|.rt<|.bR<|.tR<|?_
   refine Sx.ret1 (.inl rfl) rfl (.cell rfl Fx.agg72 (.tail _<|.head _) rfl) fun W s => ⟨?_,s.ext⟩;rw [oneR,if_neg e14,if_neg (not_or.2 ⟨e42,e43⟩),if_pos (.inr e58),hxE,if_neg (fun h => h.2 hm)]
  have hr : ¬ (tyR ⟨f.flags,c.vars,ps⟩ e).er = 0 := by have := of_decide_eq_false h68;omega
  refine .gF Z Z Z Z<|.gF Z Z Z Z<|.gF Z Z Z Z<|.yv (.pickF Z Z) Z<|.nt<|.cF Z<|.sk<|.tN<|.sr<|.yv (.loadW Z Fx.agg72 (.head _) Z) Z<|.sW (.tail<|.head) Z Z Fx.size72 (by simp [rV,Value.oneCell',strV]) Z<|.nt<|.rt<|.bR<|.tR<|?_
  refine Sx.ret1 (.inl rfl) rfl (.cell rfl Fx.agg72 (.tail _<|.head _) rfl) fun W s => ⟨?_,s.ext⟩;rw [oneR,if_neg e14,if_neg (not_or.2 ⟨e42,e43⟩),if_pos (.inr e58),hxE,if_neg (fun h => hr h.1)]
 have e58 : ¬ kd = 5 := fun e => of_decide_eq_false h56 ((u8n (k := 5) (by decide)).2 e);refine .sr<|.yv (.eql Z Z) Z<|.a Z Z<|.nt<|.cr Z (fun h75 => ?_) (fun h75 => ?_)
 ·have e76 : kd = 6 := (u8n (k := 6) (by decide)).1 (of_decide_eq_true h75);refine .sr<|.yv (.fieldAddr Z Fx.field143_0) Z<|.yv (.loadS (vs := [_,_,_,_]) Z Fx.agg31 (.tail _<|.tail _<|.head _) Z (subL Z)) Z<|.yv (.fieldAddr Z Fx.field143_0) Z<|.yv (.fieldAddr Z Fx.field31_3) Z<|.yv (.load Z Fx.agg29 (.tail _<|.tail _<|.head _) Z) Z<|.yv (.lenSl Fx.sl29 Z) Z<|.yv (.fieldAddr Z Fx.field85_1) Z<|.yv (.load Z Fx.agg9 (.tail _<|.head _) Z) Z<|.yv (.cast (v' := .int .i64 (ixI (fun x : Cp => decide (x.nm = nm)) f.comps)) (.call Fx.call34 Z (fun W t => componentR_any H f _ k1 nm f.comps.length (Nat.le_refl _) W t.agr)) (by rw [List.take_length])) Z<|.a Z Z<|.nt<|.sq<|.sr<|.m Z Z<|.yv (.lss Z Z) Z<|.nt<|.cd Z (fun h87 => ?_) (fun h87 => ?_)
  ·have hcp : cpF f.comps nm = none := ixI_no (of_decide_eq_true h87);refine .sr<|.yv (.fieldAddr Z Fx.field85_1) Z<|.yv (.load Z Fx.agg9 (.tail _<|.head _) Z) Z<|.yv (.build Z (Fx.bld72_0_1_2 _ _ _)) Z<|.sW .head Z Z Fx.size72 (by simp [rV,Value.oneCell',strV]) Z<|.nt<|.rt<|.tR<|.bR<|.tR<|?_
   refine Sx.ret1 (.inl rfl) rfl (.cell rfl Fx.agg72 (.head _) rfl) fun W s => ⟨?_,s.ext⟩;rw [oneR,if_neg e14,if_neg (not_or.2 ⟨e42,e43⟩),if_neg (not_or.2 ⟨e57,e58⟩),if_pos e76,hcp];rfl
  try simp only [df] at h87
  obtain ⟨k,hk,hix,hcp0⟩ := ixI_some h87;have hcp : cpF f.comps nm = some f.comps[k] := hcp0;obtain ⟨bC,oC,csC,eC,rC,lC,mC⟩ := hcs3.elem (map_at hk);cases eC;obtain ⟨q4,d4,q5,d5,rfl,_,_,_⟩ := cp_open rC;refine .sk<|.tN<|.sq<|.fl (trip := [(_,_,_),(_,_,_),(_,_,_),(_,_,_),(_,_,_),(_,_,_),(_,_,_),(_,_,_),(_,_,_),(_,_,_),(_,_,_),(_,_,_)]) 12 [(0,0),(1,0),(2,0),(3,0),(4,0),(5,0),(6,0),(7,0),(8,0),(9,0),(10,0),(11,0)] (by kernel_rfl) (by kernel_rfl) Z<|.yv (.loadW Z Fx.agg143 (.tail _<|.tail _<|.head _) Z) Z<|.yv (.fieldAddr Z Fx.field143_0) Z<|.yv (.fieldAddr Z Fx.field31_3) Z<|.yv (.load Z Fx.agg29 (.tail _<|.tail _<|.head _) Z) Z<|.yv (.cast (v' := .int .i64 (k : Nat)) (.move Z) (by rw [hix])) Z<|.yv (.indexSl Fx.sl29 Z Z Z (by omega) (q := oC + k * 3) Z) Z<|.yv (.loadMW Z Fx.agg78 mC Z) Z<|.yv (.fieldAddr Z Fx.field85_2) Z<|.yv (.load Z Fx.agg9 (.tail _<|.head _) Z) Z<|.yv (.fieldAddr Z Fx.field85_3) Z<|.yv (.load Z Fx.agg56 (.tail _<|.head _) Z) Z<|.yv (.cast (v' := .agg (rV (clR ⟨f.flags,c.vars,ps⟩ f.comps[k].vers hd ex 0)).toArray) (.call Fx.call98 Z (fun W t => by refine Eq.mp (congrArg (fun z => Calls Tryz.prog 98 z W _) ?_) (call_any H f c ps f.comps[k] _ rC hd ex _ 0 (by decide) _ hsr hex hfr (hpf _ (List.getElem_mem hk) _) W t.agr);congr 1)) Z) Z<|.fn (tl := [_]) Z<|.sW .head Z Z Fx.size72 (by simp [rV,Value.oneCell',strV]) Z<|.nt<|.rt<|.bR<|.tR<|?_
  refine Sx.ret1 (.inl rfl) rfl (.cell rfl Fx.agg72 (.head _) rfl) fun W s => ⟨?_,s.ext⟩;rw [oneR,if_neg e14,if_neg (not_or.2 ⟨e42,e43⟩),if_neg (not_or.2 ⟨e57,e58⟩),if_pos e76,hcp]
 have e76 : ¬ kd = 6 := fun e => of_decide_eq_false h75 ((u8n (k := 6) (by decide)).2 e);refine .sr<|.yv (.eql Z Z) Z<|.a Z Z<|.nt<|.cr Z (fun h103 => ?_) (fun h103 => ?_)
 ·have e104 : kd = 7 := (u8n (k := 7) (by decide)).1 (of_decide_eq_true h103);refine .sr<|.yv (.loadW Z Fx.agg143 (.tail _<|.tail _<|.head _) Z) Z<|.yv (.fieldAddr Z Fx.field143_1) Z<|.yv (.loadS (vs := [_,_,_]) Z Fx.agg78 (.tail _<|.tail _<|.head _) Z (subL Z)) Z<|.yv (.fieldAddr Z Fx.field85_2) Z<|.yv (.load Z Fx.agg9 (.tail _<|.head _) Z) Z<|.yv (.fieldAddr Z Fx.field85_3) Z<|.yv (.load Z Fx.agg56 (.tail _<|.head _) Z) Z<|.yv (.call Fx.call98 Z (fun W t => call_any H f c ps c _ k2 hd ex _ 1 (by decide) _ hsr hex hfr (hpc _) W t.agr)) Z<|.sW .head Z Z Fx.size72 (by simp [rV,Value.oneCell',strV]) Z<|.nt<|.rt<|.bR<|.tR<|?_
  refine Sx.ret1 (.inl rfl) rfl (.cell rfl Fx.agg72 (.head _) rfl) fun W s => ⟨?_,s.ext⟩;rw [oneR,if_neg e14,if_neg (not_or.2 ⟨e42,e43⟩),if_neg (not_or.2 ⟨e57,e58⟩),if_neg e76,if_pos e104]
 have e104 : ¬ kd = 7 := fun e => of_decide_eq_false h103 ((u8n (k := 7) (by decide)).2 e);refine .sr<|.yv (.eql Z Z) Z<|.a Z Z<|.nt<|.cr Z (fun h113 => ?_) (fun h113 => ?_)
 ·have e114 : kd = 8 := (u8n (k := 8) (by decide)).1 (of_decide_eq_true h113);refine .sr<|.yv (.loadW Z Fx.agg143 (.tail _<|.tail _<|.head _) Z) Z<|.yv (.fieldAddr Z Fx.field85_3) Z<|.yv (.load Z Fx.agg56 (.tail _<|.head _) Z) Z<|.yv (.call Fx.call97 Z (fun W t => numbers_any H f c ps ex _ _ hsr hex hfr W t.agr)) Z<|.sW .head Z Z Fx.size72 (by simp [rV,Value.oneCell',strV]) Z<|.nt<|.rt<|.bR<|.tR<|?_
  refine Sx.ret1 (.inl rfl) rfl (.cell rfl Fx.agg72 (.head _) rfl) fun W s => ⟨?_,s.ext⟩;rw [oneR,if_neg e14,if_neg (not_or.2 ⟨e42,e43⟩),if_neg (not_or.2 ⟨e57,e58⟩),if_neg e76,if_neg e104,if_pos e114]
 have e114 : ¬ kd = 8 := fun e => of_decide_eq_false h113 ((u8n (k := 8) (by decide)).2 e);refine .sr<|.yv (.eql Z Z) Z<|.a Z Z<|.nt<|.cr Z (fun h119 => ?_) (fun h119 => ?_)
 ·have e120 : kd = 9 := (u8n (k := 9) (by decide)).1 (of_decide_eq_true h119);refine .sr<|.yv (.loadW Z Fx.agg143 (.tail _<|.tail _<|.head _) Z) Z<|.yv (.fieldAddr Z Fx.field85_1) Z<|.yv (.load Z Fx.agg9 (.tail _<|.head _) Z) Z<|.yv (.call Fx.call96 Z (fun W t => target_any H f c ps nm 1 1 _ hsr W t.agr)) Z<|.al Fx.zero72 Z fun b10 => .sW .head Z Z Fx.size72 (by simp [rV,Value.oneCell',strV]) Z<|.nt<|.sq<|.sr<|.yv (.fieldAddr Z Fx.field72_1) Z<|.yv (.load Z Fx.agg3 (.head _) Z) Z<|.yv (.neq Z Z) Z<|.nt<|.cd Z (fun h127 => ?_) (fun h127 => ?_)
  ·have ht : ¬ (tgR ⟨f.flags,c.vars,ps⟩ nm 1 1).er = 0 := by have := of_decide_eq_true h127;omega
   refine .sr<|.yv (.loadW Z Fx.agg72 (.head _) Z) Z<|.sW (.tail<|.head) Z Z Fx.size72 (by simp [rV,Value.oneCell',strV]) Z<|.nt<|.rt<|.tR<|.bR<|.tR<|?_
   refine Sx.ret1 (.inl rfl) rfl (.cell rfl Fx.agg72 (.tail _<|.head _) rfl) fun W s => ⟨?_,s.ext⟩;rw [oneR,if_neg e14,if_neg (not_or.2 ⟨e42,e43⟩),if_neg (not_or.2 ⟨e57,e58⟩),if_neg e76,if_neg e104,if_neg e114,if_pos e120,if_pos ht]
  have ht : (tgR ⟨f.flags,c.vars,ps⟩ nm 1 1).er = 0 := by have := of_decide_eq_false h127;omega
  refine .sk<|.tN<|.sr<|.yv (.loadW Z Fx.agg143 (.tail _<|.tail _<|.tail _<|.head _) Z) Z<|.yv (.fieldAddr Z Fx.field85_3) Z<|.yv (.load Z Fx.agg56 (.tail _<|.tail _<|.head _) Z) Z<|.yv (.call Fx.call97 Z (fun W t => numbers_any H f c ps ex _ _ hsr hex hfr W t.agr)) Z<|.sW (.tail<|.head) Z Z Fx.size72 (by simp [rV,Value.oneCell',strV]) Z<|.nt<|.rt<|.bR<|.tR<|?_
  refine Sx.ret1 (.inl rfl) rfl (.cell rfl Fx.agg72 (.tail _<|.head _) rfl) fun W s => ⟨?_,s.ext⟩;rw [oneR,if_neg e14,if_neg (not_or.2 ⟨e42,e43⟩),if_neg (not_or.2 ⟨e57,e58⟩),if_neg e76,if_neg e104,if_neg e114,if_pos e120,if_neg (fun h => h ht)]
 have e120 : ¬ kd = 9 := fun e => of_decide_eq_false h119 ((u8n (k := 9) (by decide)).2 e);refine .sk<|.bN<|.tN<|.sr<|.yv (.build Z Fx.bld72) Z<|.sW .head Z Z Fx.size72 (by simp [rV,Value.oneCell',strV]) Z<|.nt<|.rt<|?_
 refine Sx.ret1 (.inl rfl) rfl (.cell rfl Fx.agg72 (.head _) rfl) fun W s => ⟨?_,s.ext⟩;rw [oneR,if_neg e14,if_neg (not_or.2 ⟨e42,e43⟩),if_neg (not_or.2 ⟨e57,e58⟩),if_neg e76,if_neg e104,if_neg e114,if_neg e120];rfl
def HdT (r : Tr) (l : List Rp) : Prop := match l with | [] => r.er = 0 | x :: _ => r.nm = x.1 ∧ r.er = x.2
theorem HdT.rp {r : Tr} {t : UInt8} {l : List Rp} {q : Tr} (h : r.er = 0 → r.ty = t → HdT q l) (h1 : ¬ r.er = 0 → q = r) (h2 : r.er = 0 → ¬ r.ty = t → q = ⟨0,[],10⟩) : HdT q (rpE r t ++ l) := by
 unfold rpE
 by_cases e : r.er = 0
 ·rw [if_pos e]
  by_cases k : r.ty = t
  ·rw [if_pos k];exact h e k
  ·rw [if_neg k,h2 e k];exact ⟨rfl,rfl⟩
 ·rw [if_neg e,h1 e];exact ⟨rfl,rfl⟩
theorem allT_cons (s : Sc) (t : UInt8) (e : Ex) (l : List Ex) : allT s t (e :: l) = rpE (tyE s e) t ++ allT s t l := rfl
theorem nmR_hd (s : Sc) : ∀ l : List Ex,Ex.alls frmE l = true → HdT (nmR s l) (allT s 1 l)
 | [],_ => rfl
 | e :: r,h => by
  rw [Ex.alls,Bool.and_eq_true] at h;rw [allT_cons,nmR,tyR_eq s e h.1];refine .rp (fun a b => ?_) (fun a => by rw [if_pos a]) (fun a b => by rw [if_neg (fun k => k a),if_pos b]);rw [if_neg (fun k => k a),if_neg (fun k => k b)];exact nmR_hd s r h.2
theorem exR_hd (s : Sc) (t : UInt8) {l : List Ex} (h : Ex.alls frmE l = true) (hl : l.length = 1) : HdT (if (exR s l).er = 0 ∧ ¬ (exR s l).ty = t then ⟨0,[],10⟩ else exR s l) (allT s t l) := by
 match l,hl with
 | [e],_ =>
  rw [Ex.alls,Bool.and_eq_true] at h;have e1 : exR s [e] = tyE s e := tyR_eq s e h.1;rw [e1,allT_cons];exact .rp (fun a b => by rw [if_neg (fun k => k.2 b)];exact a) (fun a => by rw [if_neg (fun k => a k.1)]) (fun a b => by rw [if_pos ⟨a,b⟩])
theorem tg_hd {s : Sc} {n : Str} {a b : UInt8} (h : ¬ (tgR s n a b).er = 0) (l : List Rp) : HdT (tgR s n a b) (chgR s n ++ ((if chgT s n = a ∨ chgT s n = b then [] else [(n,10)]) ++ l)) ∧
 HdT (tgR s n a b) (chgR s n ++ (if chgT s n = a ∨ chgT s n = b then l else [(n,10)])) := by
 unfold tgR at h ⊢;unfold chgR chgT varS
 by_cases hp : hasB s.ps n = true
 ·rw [if_pos hp,if_pos hp,hp];exact ⟨⟨rfl,rfl⟩,⟨rfl,rfl⟩⟩
 ·rw [if_neg hp] at h ⊢;rw [if_neg hp];simp only [Bool.not_eq_true] at hp;rw [hp];cases hv : varF s.vars n with
  | none =>
   simp only
   by_cases hf : flagB s.flags n = true
   ·rw [if_pos hf,hf];exact ⟨⟨rfl,rfl⟩,⟨rfl,rfl⟩⟩
   ·rw [if_neg hf];simp only [Bool.not_eq_true] at hf;rw [hf];exact ⟨⟨rfl,rfl⟩,⟨rfl,rfl⟩⟩
  | some v =>
   rw [hv] at h;simp only at h ⊢
   by_cases ht : v.ty = a ∨ v.ty = b
   ·rw [if_pos ht] at h;exact (h rfl).elim
   ·simp only [if_neg ht];exact ⟨⟨rfl,rfl⟩,⟨rfl,rfl⟩⟩
theorem tg_ok {s : Sc} {n : Str} {a b : UInt8} (h : (tgR s n a b).er = 0) : chgR s n = [] ∧ (chgT s n = a ∨ chgT s n = b) ∧ (tgR s n a b).ty = chgT s n := by
 unfold tgR at h ⊢;unfold chgR chgT varS
 by_cases hp : hasB s.ps n = true
 ·rw [if_pos hp] at h;cases h
 ·rw [if_neg hp] at h ⊢;rw [if_neg hp];cases hv : varF s.vars n with
  | none =>
   rw [hv] at h;simp only at h
   by_cases hf : flagB s.flags n = true
   ·rw [if_pos hf] at h;cases h
   ·rw [if_neg hf] at h;cases h
  | some v =>
   rw [hv] at h;simp only at h ⊢
   by_cases ht : v.ty = a ∨ v.ty = b
   ·rw [if_pos ht];exact ⟨trivial,ht,rfl⟩
   ·rw [if_neg ht] at h;cases h
theorem cl_hd (s : Sc) (vs : List (List Hd)) (n : Str) {es : List Ex} (k : Nat) (h : Ex.alls frmE es = true) : HdT (clR s vs n es k) (callR s vs n es k) := by
 unfold clR callR;cases hv : hdF vs n with
 | none => exact ⟨rfl,rfl⟩
 | some x =>
  simp only [Option.isSome_some,if_true,List.nil_append,Option.map_some,Option.getD_some]
  by_cases e : es.length = x.ps.length + k
  ·rw [if_neg (fun k => k e),if_pos (by omega)];exact nmR_hd s es h
  ·rw [if_pos e,if_neg (by omega)];exact ⟨rfl,rfl⟩
theorem one_hd (cs : List Cp) (own : List (List Hd)) (s : Sc) {x : Sm} (h : frmS x = true) : HdT (oneR cs own s x) (stR cs own s x) := by
 obtain ⟨kd,nm,hd,ex,th,el⟩ := x;have h0 := h;simp only [frmS,Bool.and_eq_true,decide_eq_true_eq] at h;have hfr : Ex.alls frmE ex = true := h.2;have hlo : (formOf kd).lo ≤ ex.length := h.1.1.1.1.1.1.2;have hhi : ex.length ≤ (formOf kd).hi := h.1.1.1.1.1.2
 have hl : kd = 1 ∨ kd = 4 ∨ kd = 5 → ex.length = 1 := fun k => by
  have a : (formOf kd).lo = 1 ∧ (formOf kd).hi = 1 := by rcases k with rfl | rfl | rfl <;> decide
  omega
 rw [oneR,stR]
 by_cases k1 : kd = 1
 ·rw [if_pos k1,if_pos k1]
  by_cases t : (tgR s nm 1 2).er = 0
  ·obtain ⟨a,b,c⟩ := tg_ok t;rw [if_neg (fun k => k t),a,List.nil_append,if_pos b,c];exact exR_hd s _ hfr (hl (.inl k1))
  ·rw [if_pos t];exact (tg_hd t _).2
 rw [if_neg k1,if_neg k1]
 by_cases k2 : kd = 2 ∨ kd = 3
 ·rw [if_pos k2,if_pos k2]
  by_cases t : (tgR s nm 3 3).er = 0
  ·obtain ⟨a,b,c⟩ := tg_ok t;rw [if_neg (fun k => k t),a,List.nil_append,if_pos (or_self_iff.1 b),List.nil_append];exact nmR_hd s ex hfr
  ·rw [if_pos t];have := (tg_hd t (allT s 1 ex)).1;simp only [or_self_iff] at this;exact this
 rw [if_neg k2,if_neg k2]
 by_cases k9 : kd = 9
 ·subst k9;rw [if_pos rfl,if_neg (by decide),if_neg (by decide),if_neg (by decide),if_neg (by decide),if_pos rfl]
  by_cases t : (tgR s nm 1 1).er = 0
  ·obtain ⟨a,b,c⟩ := tg_ok t;rw [if_neg (fun k => k t),a,List.nil_append,if_pos (or_self_iff.1 b),List.nil_append];exact nmR_hd s ex hfr
  ·rw [if_pos t];have := (tg_hd t (allT s 1 ex)).1;simp only [or_self_iff] at this;exact this
 rw [if_neg k9,if_neg k9]
 by_cases k4 : kd = 4 ∨ kd = 5
 ·rw [if_pos k4,if_pos k4];exact exR_hd s _ hfr (hl (.inr k4))
 rw [if_neg k4,if_neg k4]
 by_cases k6 : kd = 6
 ·rw [if_pos k6,if_pos k6];cases hc : cpF cs nm with
  | none => exact ⟨rfl,rfl⟩
  | some c => exact cl_hd s _ hd 0 hfr
 rw [if_neg k6,if_neg k6]
 by_cases k7 : kd = 7
 ·rw [if_pos k7,if_pos k7];exact cl_hd s _ hd 1 hfr
 rw [if_neg k7,if_neg k7]
 by_cases k8 : kd = 8
 ·rw [if_pos k8,if_pos k8];exact nmR_hd s ex hfr
 rw [if_neg k8,if_neg k8];rfl
/-! ### A body, statement by statement -/
def flS (cs : List Cp) (own : List (List Hd)) (s : Sc) (pl : Str) : Nat → List Sm → List Pb
 | _,[] => []
 | k,x :: r => atW (pl ++ itoaN k) (stR cs own s x) ++ flS cs own s pl (k + 1) r
theorem flS_app (cs : List Cp) (own : List (List Hd)) (s : Sc) (pl : Str) : ∀ (a : List Sm) (k : Nat) (b : List Sm),flS cs own s pl k (a ++ b) = flS cs own s pl k a ++ flS cs own s pl (k + a.length) b
 | [],k,b => by simp [flS]
 | x :: a,k,b => by
  simp only [List.cons_append,flS,flS_app cs own s pl a _ b,List.append_assoc,List.length_cons];rw [show k + 1 + a.length = k + (a.length + 1) by omega]
mutual
theorem stL_fl (cs : List Cp) (own : List (List Hd)) (s : Sc) (pl : Str) : ∀ (x : Sm) (k : Nat),stL cs own s pl k x = flS cs own s pl k (Sm.flat x)
 | .mk kd nm hd ex th el,k => by
  rw [stL_mk,sflat_mk,flS,stLs_fl cs own s pl th,stLs_fl cs own s pl el,flS_app,sflats_len]
theorem stLs_fl (cs : List Cp) (own : List (List Hd)) (s : Sc) (pl : Str) : ∀ (l : List Sm) (k : Nat),stLs cs own s pl k l = flS cs own s pl k (Sm.flats l)
 | [],k => by rw [stLs,Sm.flats,flS]
 | x :: r,k => by rw [stLs,Sm.flats,flS_app,stL_fl cs own s pl x,stLs_fl cs own s pl r,sflat_len]
end
theorem flS_step {cs : List Cp} {own : List (List Hd)} {s : Sc} {pl : Str} {l : List Sm} {i : Nat} (hi : i < l.length) (h : flS cs own s pl 0 (l.take i) = []) (he : (oneR cs own s l[i]).er = 0) (hf : frmS l[i] = true) : flS cs own s pl 0 (l.take (i + 1)) = [] := by
 rw [take_snoc hi,flS_app,h,List.nil_append,flS,flS,List.append_nil];have := one_hd cs own s hf;cases e : stR cs own s l[i] with
 | nil => rfl
 | cons x r =>
  rw [e] at this;have h2 : x.2 ≠ 0 := NzR.st cs own s l[i] x (by rw [e];exact .head _);exact absurd (this.2.symm.trans he) h2
theorem flS_hit {cs : List Cp} {own : List (List Hd)} {s : Sc} {pl : Str} {l : List Sm} {i : Nat} (hi : i < l.length) (h : flS cs own s pl 0 (l.take i) = []) (he : ¬ (oneR cs own s l[i]).er = 0) (hf : frmS l[i] = true) :
 ∃ r,flS cs own s pl 0 l = ⟨pl ++ itoaN i,(oneR cs own s l[i]).nm,(oneR cs own s l[i]).er⟩ :: r := by
 have hd := one_hd cs own s hf;cases e : stR cs own s l[i] with
 | nil => rw [e] at hd;exact absurd hd he
 | cons x r =>
  rw [e] at hd;have e2 : l = l.take i ++ l[i] :: l.drop (i + 1) := by simp
  generalize hx : l[i] = y at *;rw [e2,flS_app,h,List.nil_append,flS,e,hd.1,hd.2,List.length_take,Nat.min_eq_left (by omega),Nat.zero_add];exact ⟨_,rfl⟩
/-! ### Heads -/
theorem frs_cons (x : Pb) (l : List Pb) : frsP noP (x :: l) = x := by rw [frsP,if_pos (show noP.er = 0 from rfl)];rfl
theorem frs_nil : frsP noP [] = noP := frsP_nil fun _ => rfl
theorem frs_if1 {b : Bool} {w n : Str} {e : Nat} {l : List Pb} (h : b = true) : frsP noP (rpIf b w n e ++ l) = ⟨w,n,e⟩ := by rw [h];exact frs_cons _ _
theorem frs_if0 {b : Bool} {w n : Str} {e : Nat} {l : List Pb} (h : b = false) : rpIf b w n e ++ l = l := by rw [h];rfl
theorem flat_hit {α β : Type} {f : α → List β} {l : List α} {i : Nat} (hi : i < l.length) (h : (l.take i).flatMap f = []) {x : β} {r : List β} (e : f l[i] = x :: r) : ∃ r,l.flatMap f = x :: r := by
 have e2 : l = l.take i ++ l[i] :: l.drop (i + 1) := by simp
 rw [e2,List.flatMap_append,h,List.nil_append,List.flatMap_cons,e];exact ⟨_,rfl⟩
theorem rng_hit {β : Type} {f : Nat → List β} {n i : Nat} (hi : i < n) (h : (List.range i).flatMap f = []) {x : β} {r : List β} (e : f i = x :: r) : ∃ r,(List.range n).flatMap f = x :: r := by
 refine flat_hit (i := i) (by rw [List.length_range];exact hi) ?_ (r := r) (by rw [List.getElem_range];exact e);rw [List.take_range,Nat.min_eq_left (by omega)];exact h
theorem rng_step {β : Type} {f : Nat → List β} {i : Nat} (h : (List.range i).flatMap f = []) (e : f i = []) : (List.range (i + 1)).flatMap f = [] := by rw [flat_succ',h,e];rfl
theorem Fx.agg48 : aggN Tryz.prog 48 = Option.some (Option.some 3) := by kernel_rfl
theorem Fx.call71 : callN Tryz.prog 71 = Bool.true := by kernel_rfl
theorem Fx.call74 : callN Tryz.prog 74 = Bool.true := by kernel_rfl
theorem Fx.field72_2 : fieldN Tryz.prog 72 2 = Option.some 2 := by kernel_rfl
theorem Fx.size48 : sizeN Tryz.prog 48 = Option.some 3 := by kernel_rfl
theorem Fx.zero48 : zeroN Tryz.prog 48 = Option.some
 [Go.Value.string { data := { toList := [] } },Go.Value.string { data := { toList := [] } },
  Go.Value.int Go.IntKind.i64 (Int.ofNat 0)] := by kernel_rfl
theorem Fx.bld48  : buildN Tryz.prog 48 [] = some [.string ⟨#[]⟩,.string ⟨#[]⟩,.int .i64 0] := by kernel_rfl
theorem Fx.bld48_0_1_2 (x0 : ByteArray) (x1 : ByteArray) (x2 : Int) : buildN Tryz.prog 48 [(0,.string x0),(1,.string x1),(2,.int .i64 x2)] = some [.string x0,.string x1,.int .i64 x2] := by kernel_rfl
theorem frs_capp (x : Pb) (r l : List Pb) : frsP noP (x :: r ++ l) = x := frs_cons _ _
theorem hdF_one {l : List Hd} {n : Str} : hdF [l] n = l.find? fun x => decide (x.nm = n) := by simp [hdF]
theorem bef_1 {c : Cp} {n : Nat} {h : Hd} (a : ¬ hdI (c.vers.take n) h.nm ≥ 0) : befB c n h = false := by
 unfold hdI at a;unfold befB;cases e : hdF (c.vers.take n) h.nm with
 | none => rfl
 | some b => rw [e] at a;simp only at a;omega
theorem bef_2 {c : Cp} {n : Nat} {h : Hd} (a : hdI (c.vers.take n) h.nm ≥ 0) (b : hdI (c.vers.take n) h.nm = (h.ps.length : Nat)) : befB c n h = false := by
 unfold hdI at a b;unfold befB;cases e : hdF (c.vers.take n) h.nm with
 | none => rfl
 | some x => rw [e] at b;simp only at b ⊢;rw [decide_eq_true (show x.ps.length = h.ps.length by omega)];rfl
theorem bef_3 {c : Cp} {n : Nat} {h : Hd} (a : hdI (c.vers.take n) h.nm ≥ 0) (b : ¬ hdI (c.vers.take n) h.nm = (h.ps.length : Nat)) : befB c n h = true := by
 unfold hdI at a b;unfold befB;cases e : hdF (c.vers.take n) h.nm with
 | none => rw [e] at a;simp only at a;omega
 | some x => rw [e] at b;simp only at b ⊢;rw [decide_eq_false (show ¬ x.ps.length = h.ps.length by omega)];rfl
theorem varI_t {l : List Vr} {n : Str} (h : ixI (fun x : Vr => decide (x.nm = n)) l ≥ 0) : (varF l n).isSome = true := by
 obtain ⟨k,hk,_,e⟩ := ixI_some (q := fun x : Vr => decide (x.nm = n)) (l := l) (by omega);rw [varF,e];rfl
theorem varI_f {l : List Vr} {n : Str} (h : ¬ ixI (fun x : Vr => decide (x.nm = n)) l ≥ 0) : (varF l n).isSome = false := by
 rw [varF,ixI_no (q := fun x : Vr => decide (x.nm = n)) (l := l) (by omega)];rfl
theorem par1_z {f : Ft} {c : Cp} {n : Nat} {h : Hd} {k : Nat} (hk : k < h.ps.length) (a : (varF c.vars h.ps[k]).isSome = false) (b : flagB f.flags h.ps[k] = false) (d : hasB (h.ps.take k) h.ps[k] = false) : par1 f c n h k = [] := by
 rw [par1_at hk rfl,a,b,d];rfl
theorem par1_x {f : Ft} {c : Cp} {n : Nat} {h : Hd} {k : Nat} (hk : k < h.ps.length) (a : (varF c.vars h.ps[k]).isSome = true ∨ flagB f.flags h.ps[k] = true ∨ hasB (h.ps.take k) h.ps[k] = true) : par1 f c n h k = [⟨hdlW c n h,h.ps[k],5⟩] := by
 rw [par1_at hk rfl]
 have : ((varF c.vars h.ps[k]).isSome || flagB f.flags h.ps[k] || hasB (h.ps.take k) h.ps[k]) = true := by
  rcases a with a | a | a <;> simp [a]
 rw [this];rfl
set_option maxHeartbeats 4000000 in
set_option maxRecDepth 100000 in
theorem handled_any (H : Hp) (f : Ft) (c : Cp) (cs cx : List Value) (hf : Rep H (dFt .i64 f) cs) (hc : Rep H (dCp .i64 c) cx) (n j : Nat) (v : List Hd) (h : Hd) (hv : c.vers[n]? = some v) (hh : v[j]? = some h) (hn1 : n ≤ 1000) (hfm : Sm.alls frmS h.body = true) (hcnt : Sm.counts h.body ≤ 1000000) (hpf : ∀ c2 ∈ f.comps,∀ n h,hdF c2.vers n = some h → h.ps.length ≤ 1000000) (hpc : ∀ n h,hdF c.vers n = some h → h.ps.length ≤ 1000000) (w : World) (hA : Agr H w) :
 Calls Tryz.prog 36 #[.agg cs.toArray,.agg cx.toArray,.int .i64 (n : Nat),.int .i64 (j : Nat)] w fun r w' => r = .returned (.agg (pbV (frsP noP (hdl1 f c n v j))).toArray) ∧ Ext w w' := by
 have hnl : n < c.vers.length := (List.getElem?_eq_some_iff.1 hv).1;have hjl : j < v.length := (List.getElem?_eq_some_iff.1 hh).1;obtain ⟨p1,c1,p2,c2,p3,c3,rfl,nmF,k1,k2,k3⟩ := ft_open hf;obtain ⟨q1,d1,q2,d2,rfl,nmC,hvC,hsC⟩ := cp_open hc;obtain ⟨bV,oV,csV,eV,rV,lV,mV⟩ := hsC.elem (i := n) (d := dVs .i64 v) (by rw [List.getElem?_map,hv];rfl);cases eV;obtain ⟨q6,d6,rfl,hhd⟩ := vs_open rV;obtain ⟨bK,oK,csK,eK,rK,lK,mK⟩ := hhd.elem (i := j) (d := dHd .i64 h) (by rw [List.getElem?_map,hh];rfl);cases eK;obtain ⟨q7,d7,q8,d8,rfl,nmK,hps0,hbd⟩ := hd_open rK;have hps := rep_long hps0;have hcapF := k1.cap;have hcapV := hvC.cap;have hcapS := hsC.cap;have hcapH := hhd.cap;have hcapP := hps.cap;have E0 : hdl1 f c n v j = rpIf (hdF [v.take j] h.nm).isSome (hdlW c n h) h.nm 5 ++ (rpIf (befB c n h) (hdlW c n h) h.nm 10 ++ ((List.range h.ps.length).flatMap (par1 f c n h) ++ stLs f.comps c.vers ⟨f.flags,c.vars,h.ps⟩ (stmW c n h) 0 h.body)) := by unfold hdl1;rw [hh]
 have eW : ([104,97,110,100,108,101,114,32] ++ ((((c.nm ++ [46]) ++ h.nm) ++ [32]) ++ itoaN (n + 1))) = hdlW c n h := by simp only [hdlW,List.append_assoc,List.cons_append,List.nil_append]
 have eS : ∀ m,((([115,116,97,116,101,109,101,110,116,32] ++ ((((c.nm ++ [46]) ++ h.nm) ++ [32]) ++ itoaN (n + 1))) ++ [32]) ++ itoaN m) = stmW c n h ++ itoaN m := fun m => by simp only [stmW,List.append_assoc,List.cons_append,List.nil_append]
 have hil : ∀ m,m ≤ 1000000 → (itoaN m).length ≤ 21 := fun m hm => Lib.itoa_length_le _ (by omega) (by omega);have hil1 := hil (n + 1) (by omega);refine Sx.enter (H := H) Tryz.func36 rfl Tryz.ntmps36 rfl hA ?_;refine .sr<|.bx Z Z Z fun b4 => .bx Z Z Z fun b5 => .al Fx.zero48 Z fun b8 => .ns<|.yv (.fieldAddr Z Fx.field78_2) Z<|.yv (.load Z Fx.agg76 (.tail _<|.head _) Z) Z<|.m Z Z<|.yv (.indexSl Fx.sl76 Z Z Z (by omega) (q := oV + n * 1) Z) Z<|.yv (.loadM Z Fx.agg79 mV (k := 0) Z Z) Z<|.m Z Z<|.yv (.indexSl Fx.sl79 Z Z Z (by omega) (q := oK + j * 3) Z) Z<|.yv (.loadMW Z Fx.agg82 mK Z) Z<|.al Fx.zero82 Z fun b9 => .sW .head Z Z Fx.size82 (by simp [Value.oneCell',strV]) Z<|.nt<|.sq<|.fl (trip := [(_,_,_),(_,_,_),(_,_,_),(_,_,_),(_,_,_),(_,_,_),(_,_,_),(_,_,_),(_,_,_),(_,_,_),(_,_,_)]) 11 [(0,0),(1,0),(2,0),(3,0),(4,0),(5,0),(6,0),(7,0),(8,0),(9,0),(10,0)] (by kernel_rfl) (by kernel_rfl) Z<|.yv (.fieldAddr Z Fx.field78_0) Z<|.yv (.load Z Fx.agg9 (.tail _<|.tail _<|.head _) Z) Z<|.yv (.app Z Z ((by simp only [List.length_append,List.length_cons,List.length_nil];omega))) Z<|.yv (.fieldAddr Z Fx.field82_0) Z<|.yv (.load Z Fx.agg9 (.head _) Z) Z<|.yv (.app Z Z ((by simp only [List.length_append,List.length_cons,List.length_nil];omega))) Z<|.yv (.app Z Z ((by simp only [List.length_append,List.length_cons,List.length_nil];omega))) Z<|.m Z Z<|.yv (.add Z Z (w6 (by omega))) Z<|.yv (.call Fx.call71 Z (fun W t => number_any H (n + 1) (by omega) W t.agr)) Z<|.yv (.app Z Z ((by simp only [List.length_append,List.length_cons,List.length_nil];omega))) Z<|.fn (tl := [_]) Z<|.a Z Z<|.nt<|.sq<|.sr<|.a Z Z<|.nt<|.bk<|.lp (X := Nat) [(2,_),(3,_),(4,_),(5,_),(8,_),(9,_),(10,_)] ⟨rfl,rfl,rfl,rfl,rfl,rfl,rfl,trivial⟩ [_,_,_,_] (fun zz => [(11,.int .i64 (zz : Nat))]) (fun zz => H) (fun zz => []) (fun zz => zz ≤ j ∧ (v.take zz).find? (fun x => decide (x.nm = h.nm)) = none) (fun zz => j - zz) 0 (fun _ s => s) ⟨rfl,trivial⟩ ⟨Nat.zero_le _,rfl⟩ fun zz hC => ?_
 obtain ⟨z,hzz⟩ : ∃ v,v = zz := ⟨zz,rfl⟩;subst hzz;obtain ⟨hz0,hzn⟩ := hC;refine .sq<|.sr<|.m Z Z<|.m Z Z<|.yv (.lss Z Z) Z<|.nt<|.cd Z (fun h39 => ?_) (fun h39 => ?_)
 ·try simp only [dt] at h39
  have hz : z < j := by omega
  have hzv : z < v.length := by omega
  obtain ⟨bZ,oZ,csZ,eZ,rZ,lZ,mZ⟩ := hhd.elem (map_at hzv);cases eZ;obtain ⟨qz,dz,qy,dy,rfl,nmZ,_,_⟩ := hd_open rZ;refine .sk<|.tN<|.sq<|.bk<|.sq<|.fl (trip := [(_,_,_),(_,_,_),(_,_,_),(_,_,_),(_,_,_),(_,_,_),(_,_,_),(_,_,_),(_,_,_),(_,_,_),(_,_,_)]) 11 [(0,0),(1,0),(2,0),(3,0),(4,0),(5,0),(6,0),(7,0),(8,0),(9,0),(10,0)] (by kernel_rfl) (by kernel_rfl) Z<|.yv (.fieldAddr Z Fx.field78_2) Z<|.yv (.load Z Fx.agg76 (.tail _<|.tail _<|.head _) Z) Z<|.m Z Z<|.yv (.indexSl Fx.sl76 Z Z Z (by omega) (q := oV + n * 1) Z) Z<|.yv (.loadM Z Fx.agg79 mV (k := 0) Z Z) Z<|.m Z Z<|.yv (.indexSl Fx.sl79 Z Z Z (by omega) (q := oK + z * 3) Z) Z<|.yv (.fieldAddr Z Fx.field82_0) Z<|.yv (.loadM Z Fx.agg9 mZ (k := 0) Z Z) Z<|.yv (.fieldAddr Z Fx.field82_0) Z<|.yv (.load Z Fx.agg9 (.head _) Z) Z<|.fn (tl := [_]) Z<|.yv (.eqS Z Z) Z<|.nt<|.cd Z (fun h53 => ?_) (fun h53 => ?_)
  ·have hdup : (hdF [v.take j] h.nm).isSome = true := by
    rw [hdF_one,List.find?_isSome];exact ⟨v[z],List.mem_take_iff_getElem.2 ⟨z,by omega,rfl⟩,h53⟩
   refine .sr<|.m Z Z<|.yv (.app Z Z ((by simp only [List.length_append,List.length_cons,List.length_nil];omega))) Z<|.yv (.fieldAddr Z Fx.field82_0) Z<|.yv (.load Z Fx.agg9 (.head _) Z) Z<|.yv (.build Z (Fx.bld48_0_1_2 _ _ _)) Z<|.sW (.tail<|.head) Z Z Fx.size48 (by simp [Value.oneCell',strV]) Z<|.nt<|.rt<|.bR<|.tR<|.tR<|.bR<|.tR<|?_
   refine Sx.ret1 (.inl rfl) rfl (.cell rfl Fx.agg48 (.tail _<|.head _) rfl) fun W s => ⟨?_,s.ext⟩;rw [E0,frs_if1 hdup,← eW];rfl
  try simp only [df] at h53
  skip
  exact .sk<|.bN<|.tN<|.rg<|.m Z Z<|.yv (.add Z Z (w6 (by omega))) Z<|.a Z Z<|.nt<|.ag (x := z) (z + 1) ⟨rfl,trivial⟩ ⟨rfl,rfl,rfl,rfl,rfl,rfl,rfl,trivial⟩ (fun _ s => (s.pick [0,1,2,3] _ Z Z)) ⟨by omega,find_succ hzv hzn h53⟩ (by omega)
 try simp only [df] at h39
 obtain rfl : z = j := by omega
 have hdup : (hdF [v.take z] h.nm).isSome = false := by rw [hdF_one,hzn];rfl
 refine .ex<|.tE<|.tE<|.bE<|.tN<|.sq<|.sr<|.yv (.loadW Z Fx.agg78 (.tail _<|.tail _<|.head _) Z) Z<|.m Z Z<|.yv (.fieldAddr Z Fx.field82_0) Z<|.yv (.load Z Fx.agg9 (.head _) Z) Z<|.yv (.call Fx.call72 Z (fun W t => handlerR_any H c _ hc h.nm n (by omega) W t.agr)) Z<|.a Z Z<|.ns<|.m Z Z<|.yv (.geq Z Z) Z<|.m Z Z<|.b2 (fun h66 => ?_) (fun h66 => ?_)
 ·try simp only [dt] at h66
  skip
  refine .gd Z Z<|.yv (.move Z) Z<|.gd Z Z<|.yv (.fieldAddr Z Fx.field82_1) Z<|.gd Z Z<|.yv (.load Z Fx.agg54 (.head _) Z) Z<|.gd Z Z<|.yv (.lenSl Fx.sl54 Z) Z<|.gd Z Z<|.yv (.neq Z Z) Z<|.yv (.pickT Z Z) Z<|.nt<|.cd Z (fun h72 => ?_) (fun h72 => ?_)
  ·have hbef : befB c n h = true := bef_3 h66 (of_decide_eq_true h72);refine .sr<|.m Z Z<|.yv (.app Z Z ((by simp only [List.length_append,List.length_cons,List.length_nil];omega))) Z<|.yv (.fieldAddr Z Fx.field82_0) Z<|.yv (.load Z Fx.agg9 (.head _) Z) Z<|.yv (.build Z (Fx.bld48_0_1_2 _ _ _)) Z<|.sW (.tail<|.head) Z Z Fx.size48 (by simp [Value.oneCell',strV]) Z<|.nt<|.rt<|.tR<|?_
   refine Sx.ret1 (.inl rfl) rfl (.cell rfl Fx.agg48 (.tail _<|.head _) rfl) fun W s => ⟨?_,s.ext⟩;rw [E0,frs_if0 hdup,frs_if1 hbef,← eW];rfl
  have hbef : befB c n h = false := bef_2 h66 (Decidable.not_not.1 (of_decide_eq_false h72));refine .sk<|.tN<|.sq<|.sr<|.yv (.fieldAddr Z Fx.field82_1) Z<|.yv (.load Z Fx.agg54 (.head _) Z) Z<|.yv (.lenSl Fx.sl54 Z) Z<|.m Z Z<|.nt<|.bk<|.lp (X := Nat) [(4,_),(5,_),(8,_),(9,_),(10,_),(79,_),(80,_)] ⟨rfl,rfl,rfl,rfl,rfl,rfl,rfl,trivial⟩ [_,_,_,_] (fun zz => [(81,.int .i64 (zz : Nat))]) (fun zz => H) (fun zz => []) (fun zz => zz ≤ h.ps.length ∧ (List.range zz).flatMap (par1 f c n h) = []) (fun zz => h.ps.length - zz) 0 (fun _ s => s) ⟨rfl,trivial⟩ ⟨Nat.zero_le _,rfl⟩ fun zz hC => ?_
  obtain ⟨i,hiz⟩ : ∃ v,v = zz := ⟨zz,rfl⟩;subst hiz;obtain ⟨hi0,hpar⟩ := hC;refine .sr<|.yv (.lss Z Z) Z<|.nt<|.sq<|.cd Z (fun h82 => ?_) (fun h82 => ?_)
  ·try simp only [dt] at h82
   have hi : i < h.ps.length := by omega
   obtain ⟨bP,oP,csP,eP,rP,lP,mP⟩ := hps.elem (map_at hi);cases eP;obtain rfl := (strL_open rP);refine .sk<|.tN<|.sq<|.bk<|.sr<|.m Z Z<|.yv (.indexSl Fx.sl54 Z Z Z (by omega) (q := oP + i * 1) Z) Z<|.yv (.loadM Z Fx.agg9 mP (k := 0) Z Z) Z<|.a Z Z<|.a Z Z<|.ns<|.yv (.loadW Z Fx.agg31 (.tail _<|.tail _<|.tail _<|.head _) Z) Z<|.yv (.fieldAddr Z Fx.field31_1) Z<|.yv (.load Z Fx.agg27 (.tail _<|.tail _<|.tail _<|.head _) Z) Z<|.yv (.lenSl Fx.sl27 Z) Z<|.m Z Z<|.yv (.cast (v' := .bool (flagB f.flags h.ps[i])) (.call Fx.call33 Z (fun W t => flagR_any H _ _ _ f.flags _ f.flags.length (Nat.le_refl _) _ _ k1 W t.agr)) (by rw [List.take_length])) Z<|.m Z Z<|.b2 (fun h92 => ?_) (fun h92 => ?_)
   ·try simp only [dt] at h92
    have hpx : (varF c.vars h.ps[i]).isSome = true ∨ flagB f.flags h.ps[i] = true ∨ hasB (h.ps.take i) h.ps[i] = true := .inr (.inl h92);refine .gF Z Z Z Z<|.gF Z Z Z Z<|.gF Z Z Z Z<|.gF Z Z Z Z<|.gF Z Z Z Z<|.gF Z Z Z Z<|.gF Z Z Z Z<|.yv (.pickT Z Z) Z<|.m Z Z<|.gF Z Z Z Z<|.gF Z Z Z Z<|.gF Z Z Z Z<|.gF Z Z Z Z<|.gF Z Z Z Z<|.gF Z Z Z Z<|.yv (.pickT Z Z) Z<|.nt<|.cT Z<|.sr<|.m Z Z<|.yv (.app Z Z ((by simp only [List.length_append,List.length_cons,List.length_nil];omega))) Z<|.m Z Z<|.yv (.build Z (Fx.bld48_0_1_2 _ _ _)) Z<|.sW (.tail<|.head) Z Z Fx.size48 (by simp [Value.oneCell',strV]) Z<|.nt<|.rt<|.bR<|.tR<|.tR<|.bR<|.tR<|?_
    refine Sx.ret1 (.inl rfl) rfl (.cell rfl Fx.agg48 (.tail _<|.head _) rfl) fun W s => ⟨?_,s.ext⟩;obtain ⟨r,er⟩ := rng_hit (f := par1 f c n h) hi hpar (par1_x hi hpx);rw [E0,frs_if0 hdup,frs_if0 hbef,er,frs_capp,← eW];rfl
   try simp only [df] at h92
   have a92 : flagB f.flags h.ps[i] = false := by simpa using h92
   refine .gd Z Z<|.yv (.loadW Z Fx.agg78 (.tail _<|.tail _<|.head _) Z) Z<|.gd Z Z<|.yv (.fieldAddr Z Fx.field78_1) Z<|.gd Z Z<|.yv (.load Z Fx.agg75 (.tail _<|.tail _<|.head _) Z) Z<|.gd Z Z<|.yv (.lenSl Fx.sl75 Z) Z<|.gd Z Z<|.yv (.move Z) Z<|.gd Z Z<|.yv (.cast (v' := .int .i64 (ixI (fun x : Vr => decide (x.nm = h.ps[i])) c.vars)) (.call Fx.call35 Z (fun W t => variableR_any H _ _ c.vars _ c.vars.length (Nat.le_refl _) _ _ hvC W t.agr)) (by rw [List.take_length])) Z<|.gd Z Z<|.yv (.geq Z Z) Z<|.yv (.pickF Z Z) Z<|.m Z Z<|.b2 (fun h101 => ?_) (fun h101 => ?_)
   ·have hpx : (varF c.vars h.ps[i]).isSome = true ∨ flagB f.flags h.ps[i] = true ∨ hasB (h.ps.take i) h.ps[i] = true := .inl (varI_t (of_decide_eq_true h101));refine .gF Z Z Z Z<|.gF Z Z Z Z<|.gF Z Z Z Z<|.gF Z Z Z Z<|.gF Z Z Z Z<|.gF Z Z Z Z<|.yv (.pickT Z Z) Z<|.nt<|.cT Z<|.sr<|.m Z Z<|.yv (.app Z Z ((by simp only [List.length_append,List.length_cons,List.length_nil];omega))) Z<|.m Z Z<|.yv (.build Z (Fx.bld48_0_1_2 _ _ _)) Z<|.sW (.tail<|.head) Z Z Fx.size48 (by simp [Value.oneCell',strV]) Z<|.nt<|.rt<|.bR<|.tR<|.tR<|.bR<|.tR<|?_
    refine Sx.ret1 (.inl rfl) rfl (.cell rfl Fx.agg48 (.tail _<|.head _) rfl) fun W s => ⟨?_,s.ext⟩;obtain ⟨r,er⟩ := rng_hit (f := par1 f c n h) hi hpar (par1_x hi hpx);rw [E0,frs_if0 hdup,frs_if0 hbef,er,frs_capp,← eW];rfl
   have a99 : (varF c.vars h.ps[i]).isSome = false := varI_f (of_decide_eq_false h101);refine .gd Z Z<|.yv (.fieldAddr Z Fx.field82_1) Z<|.gd Z Z<|.yv (.load Z Fx.agg54 (.head _) Z) Z<|.gd Z Z<|.yv (.move Z) Z<|.gd Z Z<|.yv (.cutHi2 Fx.sl54 Z Z (h := i) Z (by have := hps.len.2.1;omega)) Z<|.gd Z Z<|.yv (.move Z) Z<|.gd Z Z<|.yv (.call Fx.call73 Z (fun W t => has_any H (h.ps.take i) _ _ (by rw [List.map_take];exact rep_take2 hps (by omega)) W t.agr)) Z<|.yv (.pickF Z Z) Z<|.nt<|.cd Z (fun h108 => ?_) (fun h108 => ?_)
   ·have hpx : (varF c.vars h.ps[i]).isSome = true ∨ flagB f.flags h.ps[i] = true ∨ hasB (h.ps.take i) h.ps[i] = true := .inr (.inr h108);refine .sr<|.m Z Z<|.yv (.app Z Z ((by simp only [List.length_append,List.length_cons,List.length_nil];omega))) Z<|.m Z Z<|.yv (.build Z (Fx.bld48_0_1_2 _ _ _)) Z<|.sW (.tail<|.head) Z Z Fx.size48 (by simp [Value.oneCell',strV]) Z<|.nt<|.rt<|.bR<|.tR<|.tR<|.bR<|.tR<|?_
    refine Sx.ret1 (.inl rfl) rfl (.cell rfl Fx.agg48 (.tail _<|.head _) rfl) fun W s => ⟨?_,s.ext⟩;obtain ⟨r,er⟩ := rng_hit (f := par1 f c n h) hi hpar (par1_x hi hpx);rw [E0,frs_if0 hdup,frs_if0 hbef,er,frs_capp,← eW];rfl
   try simp only [df] at h108
   have a107 : hasB (h.ps.take i) h.ps[i] = false := by simpa using h108
   exact .sk<|.bN<|.tN<|.rg<|.yv (.add Z Z (w6 (by omega))) Z<|.m Z Z<|.nt<|.ag (x := i) (i + 1) ⟨rfl,trivial⟩ ⟨rfl,rfl,rfl,rfl,rfl,rfl,rfl,trivial⟩ (fun _ s => (s.pick [0,1,2,3] _ Z Z)) ⟨by omega,rng_step hpar (par1_z hi a99 a92 a107)⟩ (by omega)
  try simp only [df] at h82
  obtain rfl : i = h.ps.length := by omega
  refine .ex<|.tE<|.tE<|.bE<|.tN<|.sq<|.sr<|.yv (.fieldAddr Z Fx.field82_2) Z<|.yv (.load Z Fx.agg80 (.head _) Z) Z<|.ct (X := Value) Fx.call22 Z (fun W t => flat_any h.body hcnt H _ W hbd t.agr) Z fun v57 H57 hc57 u57 => ?_
  obtain ⟨f57,hf57⟩ : ∃ l,l = Sm.flats h.body := ⟨_,rfl⟩;rw [← hf57] at hc57;have hlen57 : f57.length ≤ 1000000 := by rw [hf57,sflats_len];exact hcnt
  obtain ⟨p57,c57,e57,_⟩ := hc57.sl;simp only [List.cons.injEq,and_true,List.length_map] at e57;subst e57;have hcap57 := hc57.cap;refine .yv (.lenSl Fx.sl80 Z) Z<|.m Z Z<|.nt<|.bk<|.lp (X := Nat) [(4,_),(5,_),(8,_),(9,_),(10,_),(116,_),(117,_)] ⟨rfl,rfl,rfl,rfl,rfl,rfl,rfl,trivial⟩ [_,_,_,_] (fun zz => [(118,.int .i64 (zz : Nat))]) (fun zz => H57) (fun zz => []) (fun zz => zz ≤ f57.length ∧ flS f.comps c.vers ⟨f.flags,c.vars,h.ps⟩ (stmW c n h) 0 (f57.take zz) = []) (fun zz => f57.length - zz) 0 (fun _ s => s) ⟨rfl,trivial⟩ ⟨Nat.zero_le _,rfl⟩ fun zz hC => ?_
  obtain ⟨m,hmz⟩ : ∃ v,v = zz := ⟨zz,rfl⟩;subst hmz;obtain ⟨hm0,hfl⟩ := hC;refine .sr<|.yv (.lss Z Z) Z<|.nt<|.sq<|.cd Z (fun h119 => ?_) (fun h119 => ?_)
  ·try simp only [dt] at h119
   have hm : m < f57.length := by omega
   obtain ⟨bS,oS,csS,eS,rS,lS,mS⟩ := hc57.elem (map_at hm);cases eS;have hfx : frmS f57[m] = true := sall_self (sflats_all _ _ hfm _ (hf57 ▸ List.getElem_mem hm));refine .sk<|.tN<|.sq<|.bk<|.sr<|.m Z Z<|.yv (.indexSl Fx.sl80 Z Z Z (by omega) (q := oS + m * 6) Z) Z<|.yv (.loadMW Z Fx.agg85 mS lS) Z<|.al Fx.zero85 Z fun b16 => .a Z Z<|.sV .head Z Z Fx.size85 lS rS.one Z<|.ns<|.yv (.loadW Z Fx.agg31 (.tail _<|.tail _<|.tail _<|.tail _<|.head _) Z) Z<|.yv (.loadW Z Fx.agg78 (.tail _<|.tail _<|.tail _<|.head _) Z) Z<|.yv (.fieldAddr Z Fx.field82_1) Z<|.yv (.load Z Fx.agg54 (.tail _<|.head _) Z) Z<|.yv (.build Z (Fx.bld143_0_1_2 _ _ _ _ _ _ _ _ _ _)) Z<|.yv (.loadW Z Fx.agg85 (.head _) lS) Z<|.yv (.call Fx.call74 Z (fun W t => one_any H57 f c h.ps _ _ csS ⟨⟨_,_,_,_,_,_,_,_,_,_,_,_,rfl,hf.up u57.up,hc.up u57.up,hps.up u57.up⟩⟩ rS hfx hpf hpc W t.agr)) Z<|.al Fx.zero72 Z fun b17 => .sW .head Z Z Fx.size72 (by simp [rV,Value.oneCell',strV]) Z<|.ns<|.yv (.fieldAddr Z Fx.field72_1) Z<|.yv (.load Z Fx.agg3 (.head _) Z) Z<|.yv (.neq Z Z) Z<|.nt<|.cd Z (fun h132 => ?_) (fun h132 => ?_)
   ·have h1 : ¬ (oneR f.comps c.vers ⟨f.flags,c.vars,h.ps⟩ f57[m]).er = 0 := by have := of_decide_eq_true h132;omega
    have hilm := hil m (by omega);refine .sq<|.fl (trip := [(_,_,_),(_,_,_),(_,_,_),(_,_,_),(_,_,_),(_,_,_),(_,_,_),(_,_,_),(_,_,_),(_,_,_),(_,_,_)]) 11 [(0,0),(1,0),(2,0),(3,0),(4,0),(5,0),(6,0),(7,0),(8,0),(9,0),(10,0)] (by kernel_rfl) (by kernel_rfl) Z<|.m Z Z<|.yv (.app Z Z ((by simp only [List.length_append,List.length_cons,List.length_nil];omega))) Z<|.yv (.app Z Z ((by simp only [List.length_append,List.length_cons,List.length_nil];omega))) Z<|.m Z Z<|.yv (.call Fx.call71 Z (fun W t => number_any H57 m (by omega) W t.agr)) Z<|.yv (.app Z Z ((by simp only [List.length_append,List.length_cons,List.length_nil];omega))) Z<|.yv (.fieldAddr Z Fx.field72_2) Z<|.yv (.load Z Fx.agg9 (.head _) Z) Z<|.yv (.fieldAddr Z Fx.field72_1) Z<|.yv (.load Z Fx.agg3 (.head _) Z) Z<|.yv (.build Z (Fx.bld48_0_1_2 _ _ _)) Z<|.fn (tl := [_]) Z<|.sW (.tail<|.tail<|.tail<|.head) Z Z Fx.size48 (by simp [Value.oneCell',strV]) Z<|.nt<|.rt<|.bR<|.tR<|.tR<|.bR<|.tR<|?_
    refine Sx.ret1 (.inl rfl) rfl (.cell rfl Fx.agg48 (.tail _<|.tail _<|.tail _<|.head _) rfl) fun W s => ⟨?_,(u57.grow s).ext⟩;obtain ⟨r,er⟩ := flS_hit (pl := stmW c n h) hm hfl h1 hfx;rw [E0,frs_if0 hdup,frs_if0 hbef,hpar,List.nil_append,stLs_fl,← hf57,er,frs_cons,← eS];rfl
   have h0 : (oneR f.comps c.vers ⟨f.flags,c.vars,h.ps⟩ f57[m]).er = 0 := by have := of_decide_eq_false h132;omega
   exact .sk<|.bN<|.tN<|.rg<|.yv (.add Z Z (w6 (by omega))) Z<|.m Z Z<|.nt<|.ag (x := m) (m + 1) ⟨rfl,trivial⟩ ⟨rfl,rfl,rfl,rfl,rfl,rfl,rfl,trivial⟩ (fun _ s => (s.pick [2,3,4,5] _ Z Z)) ⟨by omega,flS_step hm hfl h0 hfx⟩ (by omega)
  try simp only [df] at h119
  obtain rfl : m = f57.length := by omega
  rw [List.take_length] at hfl;refine .ex<|.tE<|.tE<|.bE<|.tN<|.sr<|.yv (.build Z Fx.bld48) Z<|.sW (.tail<|.head) Z Z Fx.size48 (by simp [Value.oneCell',strV]) Z<|.nt<|.rt<|?_
  refine Sx.ret1 (.inl rfl) rfl (.cell rfl Fx.agg48 (.tail _<|.head _) rfl) fun W s => ⟨?_,(u57.grow s).ext⟩;rw [E0,frs_if0 hdup,frs_if0 hbef,hpar,List.nil_append,stLs_fl,← hf57,hfl,frs_nil];rfl
 try simp only [df] at h66
 have hbef : befB c n h = false := bef_1 h66;refine .gF Z Z Z Z<|.gF Z Z Z Z<|.gF Z Z Z Z<|.gF Z Z Z Z<|.gF Z Z Z Z<|.yv (.pickF Z Z) Z<|.nt<|.cF Z<|.sk<|.tN<|.sq<|.sr<|.yv (.fieldAddr Z Fx.field82_1) Z<|.yv (.load Z Fx.agg54 (.head _) Z) Z<|.yv (.lenSl Fx.sl54 Z) Z<|.m Z Z<|.nt<|.bk<|.lp (X := Nat) [(4,_),(5,_),(8,_),(9,_),(10,_),(79,_),(80,_)] ⟨rfl,rfl,rfl,rfl,rfl,rfl,rfl,trivial⟩ [_,_,_,_] (fun zz => [(81,.int .i64 (zz : Nat))]) (fun zz => H) (fun zz => []) (fun zz => zz ≤ h.ps.length ∧ (List.range zz).flatMap (par1 f c n h) = []) (fun zz => h.ps.length - zz) 0 (fun _ s => s) ⟨rfl,trivial⟩ ⟨Nat.zero_le _,rfl⟩ fun zz hC => ?_
 obtain ⟨i,hiz⟩ : ∃ v,v = zz := ⟨zz,rfl⟩;subst hiz;obtain ⟨hi0,hpar⟩ := hC;refine .sr<|.yv (.lss Z Z) Z<|.nt<|.sq<|.cd Z (fun h82 => ?_) (fun h82 => ?_)
 ·try simp only [dt] at h82
  have hi : i < h.ps.length := by omega
  obtain ⟨bP,oP,csP,eP,rP,lP,mP⟩ := hps.elem (map_at hi);cases eP;obtain rfl := (strL_open rP);refine .sk<|.tN<|.sq<|.bk<|.sr<|.m Z Z<|.yv (.indexSl Fx.sl54 Z Z Z (by omega) (q := oP + i * 1) Z) Z<|.yv (.loadM Z Fx.agg9 mP (k := 0) Z Z) Z<|.a Z Z<|.a Z Z<|.ns<|.yv (.loadW Z Fx.agg31 (.tail _<|.tail _<|.tail _<|.head _) Z) Z<|.yv (.fieldAddr Z Fx.field31_1) Z<|.yv (.load Z Fx.agg27 (.tail _<|.tail _<|.tail _<|.head _) Z) Z<|.yv (.lenSl Fx.sl27 Z) Z<|.m Z Z<|.yv (.cast (v' := .bool (flagB f.flags h.ps[i])) (.call Fx.call33 Z (fun W t => flagR_any H _ _ _ f.flags _ f.flags.length (Nat.le_refl _) _ _ k1 W t.agr)) (by rw [List.take_length])) Z<|.m Z Z<|.b2 (fun h92 => ?_) (fun h92 => ?_)
  ·try simp only [dt] at h92
   have hpx : (varF c.vars h.ps[i]).isSome = true ∨ flagB f.flags h.ps[i] = true ∨ hasB (h.ps.take i) h.ps[i] = true := .inr (.inl h92);refine .gF Z Z Z Z<|.gF Z Z Z Z<|.gF Z Z Z Z<|.gF Z Z Z Z<|.gF Z Z Z Z<|.gF Z Z Z Z<|.gF Z Z Z Z<|.yv (.pickT Z Z) Z<|.m Z Z<|.gF Z Z Z Z<|.gF Z Z Z Z<|.gF Z Z Z Z<|.gF Z Z Z Z<|.gF Z Z Z Z<|.gF Z Z Z Z<|.yv (.pickT Z Z) Z<|.nt<|.cT Z<|.sr<|.m Z Z<|.yv (.app Z Z ((by simp only [List.length_append,List.length_cons,List.length_nil];omega))) Z<|.m Z Z<|.yv (.build Z (Fx.bld48_0_1_2 _ _ _)) Z<|.sW (.tail<|.head) Z Z Fx.size48 (by simp [Value.oneCell',strV]) Z<|.nt<|.rt<|.bR<|.tR<|.tR<|.bR<|.tR<|?_
   refine Sx.ret1 (.inl rfl) rfl (.cell rfl Fx.agg48 (.tail _<|.head _) rfl) fun W s => ⟨?_,s.ext⟩;obtain ⟨r,er⟩ := rng_hit (f := par1 f c n h) hi hpar (par1_x hi hpx);rw [E0,frs_if0 hdup,frs_if0 hbef,er,frs_capp,← eW];rfl
  try simp only [df] at h92
  have a92 : flagB f.flags h.ps[i] = false := by simpa using h92
  refine .gd Z Z<|.yv (.loadW Z Fx.agg78 (.tail _<|.tail _<|.head _) Z) Z<|.gd Z Z<|.yv (.fieldAddr Z Fx.field78_1) Z<|.gd Z Z<|.yv (.load Z Fx.agg75 (.tail _<|.tail _<|.head _) Z) Z<|.gd Z Z<|.yv (.lenSl Fx.sl75 Z) Z<|.gd Z Z<|.yv (.move Z) Z<|.gd Z Z<|.yv (.cast (v' := .int .i64 (ixI (fun x : Vr => decide (x.nm = h.ps[i])) c.vars)) (.call Fx.call35 Z (fun W t => variableR_any H _ _ c.vars _ c.vars.length (Nat.le_refl _) _ _ hvC W t.agr)) (by rw [List.take_length])) Z<|.gd Z Z<|.yv (.geq Z Z) Z<|.yv (.pickF Z Z) Z<|.m Z Z<|.b2 (fun h101 => ?_) (fun h101 => ?_)
  ·have hpx : (varF c.vars h.ps[i]).isSome = true ∨ flagB f.flags h.ps[i] = true ∨ hasB (h.ps.take i) h.ps[i] = true := .inl (varI_t (of_decide_eq_true h101));refine .gF Z Z Z Z<|.gF Z Z Z Z<|.gF Z Z Z Z<|.gF Z Z Z Z<|.gF Z Z Z Z<|.gF Z Z Z Z<|.yv (.pickT Z Z) Z<|.nt<|.cT Z<|.sr<|.m Z Z<|.yv (.app Z Z ((by simp only [List.length_append,List.length_cons,List.length_nil];omega))) Z<|.m Z Z<|.yv (.build Z (Fx.bld48_0_1_2 _ _ _)) Z<|.sW (.tail<|.head) Z Z Fx.size48 (by simp [Value.oneCell',strV]) Z<|.nt<|.rt<|.bR<|.tR<|.tR<|.bR<|.tR<|?_
   refine Sx.ret1 (.inl rfl) rfl (.cell rfl Fx.agg48 (.tail _<|.head _) rfl) fun W s => ⟨?_,s.ext⟩;obtain ⟨r,er⟩ := rng_hit (f := par1 f c n h) hi hpar (par1_x hi hpx);rw [E0,frs_if0 hdup,frs_if0 hbef,er,frs_capp,← eW];rfl
  have a99 : (varF c.vars h.ps[i]).isSome = false := varI_f (of_decide_eq_false h101);refine .gd Z Z<|.yv (.fieldAddr Z Fx.field82_1) Z<|.gd Z Z<|.yv (.load Z Fx.agg54 (.head _) Z) Z<|.gd Z Z<|.yv (.move Z) Z<|.gd Z Z<|.yv (.cutHi2 Fx.sl54 Z Z (h := i) Z (by have := hps.len.2.1;omega)) Z<|.gd Z Z<|.yv (.move Z) Z<|.gd Z Z<|.yv (.call Fx.call73 Z (fun W t => has_any H (h.ps.take i) _ _ (by rw [List.map_take];exact rep_take2 hps (by omega)) W t.agr)) Z<|.yv (.pickF Z Z) Z<|.nt<|.cd Z (fun h108 => ?_) (fun h108 => ?_)
  ·have hpx : (varF c.vars h.ps[i]).isSome = true ∨ flagB f.flags h.ps[i] = true ∨ hasB (h.ps.take i) h.ps[i] = true := .inr (.inr h108);refine .sr<|.m Z Z<|.yv (.app Z Z ((by simp only [List.length_append,List.length_cons,List.length_nil];omega))) Z<|.m Z Z<|.yv (.build Z (Fx.bld48_0_1_2 _ _ _)) Z<|.sW (.tail<|.head) Z Z Fx.size48 (by simp [Value.oneCell',strV]) Z<|.nt<|.rt<|.bR<|.tR<|.tR<|.bR<|.tR<|?_
   refine Sx.ret1 (.inl rfl) rfl (.cell rfl Fx.agg48 (.tail _<|.head _) rfl) fun W s => ⟨?_,s.ext⟩;obtain ⟨r,er⟩ := rng_hit (f := par1 f c n h) hi hpar (par1_x hi hpx);rw [E0,frs_if0 hdup,frs_if0 hbef,er,frs_capp,← eW];rfl
  try simp only [df] at h108
  have a107 : hasB (h.ps.take i) h.ps[i] = false := by simpa using h108
  exact .sk<|.bN<|.tN<|.rg<|.yv (.add Z Z (w6 (by omega))) Z<|.m Z Z<|.nt<|.ag (x := i) (i + 1) ⟨rfl,trivial⟩ ⟨rfl,rfl,rfl,rfl,rfl,rfl,rfl,trivial⟩ (fun _ s => (s.pick [0,1,2,3] _ Z Z)) ⟨by omega,rng_step hpar (par1_z hi a99 a92 a107)⟩ (by omega)
 try simp only [df] at h82
 obtain rfl : i = h.ps.length := by omega
 refine .ex<|.tE<|.tE<|.bE<|.tN<|.sq<|.sr<|.yv (.fieldAddr Z Fx.field82_2) Z<|.yv (.load Z Fx.agg80 (.head _) Z) Z<|.ct (X := Value) Fx.call22 Z (fun W t => flat_any h.body hcnt H _ W hbd t.agr) Z fun v57 H57 hc57 u57 => ?_
 obtain ⟨f57,hf57⟩ : ∃ l,l = Sm.flats h.body := ⟨_,rfl⟩;rw [← hf57] at hc57;have hlen57 : f57.length ≤ 1000000 := by rw [hf57,sflats_len];exact hcnt
 obtain ⟨p57,c57,e57,_⟩ := hc57.sl;simp only [List.cons.injEq,and_true,List.length_map] at e57;subst e57;have hcap57 := hc57.cap;refine .yv (.lenSl Fx.sl80 Z) Z<|.m Z Z<|.nt<|.bk<|.lp (X := Nat) [(4,_),(5,_),(8,_),(9,_),(10,_),(116,_),(117,_)] ⟨rfl,rfl,rfl,rfl,rfl,rfl,rfl,trivial⟩ [_,_,_,_] (fun zz => [(118,.int .i64 (zz : Nat))]) (fun zz => H57) (fun zz => []) (fun zz => zz ≤ f57.length ∧ flS f.comps c.vers ⟨f.flags,c.vars,h.ps⟩ (stmW c n h) 0 (f57.take zz) = []) (fun zz => f57.length - zz) 0 (fun _ s => s) ⟨rfl,trivial⟩ ⟨Nat.zero_le _,rfl⟩ fun zz hC => ?_
 obtain ⟨m,hmz⟩ : ∃ v,v = zz := ⟨zz,rfl⟩;subst hmz;obtain ⟨hm0,hfl⟩ := hC;refine .sr<|.yv (.lss Z Z) Z<|.nt<|.sq<|.cd Z (fun h119 => ?_) (fun h119 => ?_)
 ·try simp only [dt] at h119
  have hm : m < f57.length := by omega
  obtain ⟨bS,oS,csS,eS,rS,lS,mS⟩ := hc57.elem (map_at hm);cases eS;have hfx : frmS f57[m] = true := sall_self (sflats_all _ _ hfm _ (hf57 ▸ List.getElem_mem hm));refine .sk<|.tN<|.sq<|.bk<|.sr<|.m Z Z<|.yv (.indexSl Fx.sl80 Z Z Z (by omega) (q := oS + m * 6) Z) Z<|.yv (.loadMW Z Fx.agg85 mS lS) Z<|.al Fx.zero85 Z fun b16 => .a Z Z<|.sV .head Z Z Fx.size85 lS rS.one Z<|.ns<|.yv (.loadW Z Fx.agg31 (.tail _<|.tail _<|.tail _<|.tail _<|.head _) Z) Z<|.yv (.loadW Z Fx.agg78 (.tail _<|.tail _<|.tail _<|.head _) Z) Z<|.yv (.fieldAddr Z Fx.field82_1) Z<|.yv (.load Z Fx.agg54 (.tail _<|.head _) Z) Z<|.yv (.build Z (Fx.bld143_0_1_2 _ _ _ _ _ _ _ _ _ _)) Z<|.yv (.loadW Z Fx.agg85 (.head _) lS) Z<|.yv (.call Fx.call74 Z (fun W t => one_any H57 f c h.ps _ _ csS ⟨⟨_,_,_,_,_,_,_,_,_,_,_,_,rfl,hf.up u57.up,hc.up u57.up,hps.up u57.up⟩⟩ rS hfx hpf hpc W t.agr)) Z<|.al Fx.zero72 Z fun b17 => .sW .head Z Z Fx.size72 (by simp [rV,Value.oneCell',strV]) Z<|.ns<|.yv (.fieldAddr Z Fx.field72_1) Z<|.yv (.load Z Fx.agg3 (.head _) Z) Z<|.yv (.neq Z Z) Z<|.nt<|.cd Z (fun h132 => ?_) (fun h132 => ?_)
  ·have h1 : ¬ (oneR f.comps c.vers ⟨f.flags,c.vars,h.ps⟩ f57[m]).er = 0 := by have := of_decide_eq_true h132;omega
   have hilm := hil m (by omega);refine .sq<|.fl (trip := [(_,_,_),(_,_,_),(_,_,_),(_,_,_),(_,_,_),(_,_,_),(_,_,_),(_,_,_),(_,_,_),(_,_,_),(_,_,_)]) 11 [(0,0),(1,0),(2,0),(3,0),(4,0),(5,0),(6,0),(7,0),(8,0),(9,0),(10,0)] (by kernel_rfl) (by kernel_rfl) Z<|.m Z Z<|.yv (.app Z Z ((by simp only [List.length_append,List.length_cons,List.length_nil];omega))) Z<|.yv (.app Z Z ((by simp only [List.length_append,List.length_cons,List.length_nil];omega))) Z<|.m Z Z<|.yv (.call Fx.call71 Z (fun W t => number_any H57 m (by omega) W t.agr)) Z<|.yv (.app Z Z ((by simp only [List.length_append,List.length_cons,List.length_nil];omega))) Z<|.yv (.fieldAddr Z Fx.field72_2) Z<|.yv (.load Z Fx.agg9 (.head _) Z) Z<|.yv (.fieldAddr Z Fx.field72_1) Z<|.yv (.load Z Fx.agg3 (.head _) Z) Z<|.yv (.build Z (Fx.bld48_0_1_2 _ _ _)) Z<|.fn (tl := [_]) Z<|.sW (.tail<|.tail<|.tail<|.head) Z Z Fx.size48 (by simp [Value.oneCell',strV]) Z<|.nt<|.rt<|.bR<|.tR<|.tR<|.bR<|.tR<|?_
   refine Sx.ret1 (.inl rfl) rfl (.cell rfl Fx.agg48 (.tail _<|.tail _<|.tail _<|.head _) rfl) fun W s => ⟨?_,(u57.grow s).ext⟩;obtain ⟨r,er⟩ := flS_hit (pl := stmW c n h) hm hfl h1 hfx;rw [E0,frs_if0 hdup,frs_if0 hbef,hpar,List.nil_append,stLs_fl,← hf57,er,frs_cons,← eS];rfl
  have h0 : (oneR f.comps c.vers ⟨f.flags,c.vars,h.ps⟩ f57[m]).er = 0 := by have := of_decide_eq_false h132;omega
  exact .sk<|.bN<|.tN<|.rg<|.yv (.add Z Z (w6 (by omega))) Z<|.m Z Z<|.nt<|.ag (x := m) (m + 1) ⟨rfl,trivial⟩ ⟨rfl,rfl,rfl,rfl,rfl,rfl,rfl,trivial⟩ (fun _ s => (s.pick [2,3,4,5] _ Z Z)) ⟨by omega,flS_step hm hfl h0 hfx⟩ (by omega)
 try simp only [df] at h119
 obtain rfl : m = f57.length := by omega
 rw [List.take_length] at hfl;refine .ex<|.tE<|.tE<|.bE<|.tN<|.sr<|.yv (.build Z Fx.bld48) Z<|.sW (.tail<|.head) Z Z Fx.size48 (by simp [Value.oneCell',strV]) Z<|.nt<|.rt<|?_
 refine Sx.ret1 (.inl rfl) rfl (.cell rfl Fx.agg48 (.tail _<|.head _) rfl) fun W s => ⟨?_,(u57.grow s).ext⟩;rw [E0,frs_if0 hdup,frs_if0 hbef,hpar,List.nil_append,stLs_fl,← hf57,hfl,frs_nil];rfl
theorem flg1_z {f : Ft} {i : Nat} (h : i < f.flags.length) : flg1 f i = rpIf (flagB (f.flags.take i) f.flags[i].nm) ([102,108,97,103,32] ++ f.flags[i].nm) f.flags[i].nm 5 := by
 unfold flg1;rw [List.getElem?_eq_getElem h]
theorem lnk1_z {f : Ft} {i : Nat} {x : Lk} (h : f.links[i]? = some x) : lnk1 f i = rpIf (!(cpF f.comps x.fr).isSome) (lnkW x) x.fr 9 ++ (rpIf (!(cpF f.comps x.to).isSome) (lnkW x) x.to 9 ++ rpIf (sameL (f.links.take i) x) (lnkW x) x.fr 5) := by
 unfold lnk1;rw [h]
theorem cpI_t {l : List Cp} {n : Str} (h : ¬ ixI (fun x : Cp => decide (x.nm = n)) l < 0) : (cpF l n).isSome = true := by
 obtain ⟨k,hk,_,e⟩ := ixI_some (q := fun x : Cp => decide (x.nm = n)) (l := l) h;rw [cpF,e];rfl
theorem cpI_f {l : List Cp} {n : Str} (h : ixI (fun x : Cp => decide (x.nm = n)) l < 0) : (cpF l n).isSome = false := by
 rw [cpF,ixI_no (q := fun x : Cp => decide (x.nm = n)) (l := l) h];rfl
theorem same_step {l : List Lk} {x : Lk} {j : Nat} (h : j < l.length) (a : sameL (l.take j) x = false) (b : ¬ (l[j].fr = x.fr ∧ l[j].to = x.to)) : sameL (l.take (j + 1)) x = false := by
 rw [sameL,any_succ1 h];rw [sameL] at a;rw [a,decide_eq_false b];rfl
theorem same_hit {l : List Lk} {x : Lk} {j m : Nat} (h : j < l.length) (hm : j < m) (a : l[j].fr = x.fr) (b : l[j].to = x.to) : sameL (l.take m) x = true := by
 rw [sameL,List.any_eq_true];exact ⟨l[j],List.mem_take_iff_getElem.2 ⟨j,by omega,rfl⟩,decide_eq_true ⟨a,b⟩⟩
theorem rng_at0 {f : Nat → List Pb} {n i : Nat} {m : List Pb} {x : Pb} {r : List Pb} (hi : i < n) (h : (List.range i).flatMap f = []) (e : f i = x :: r) : frsP noP ((List.range n).flatMap f ++ m) = x := by
 obtain ⟨r,er⟩ := rng_hit hi h e;rw [er];exact frs_cons _ _
theorem rng_at1 {f : Nat → List Pb} {n i : Nat} {l : List Pb} {x : Pb} {r : List Pb} (hl : l = []) (hi : i < n) (h : (List.range i).flatMap f = []) (e : f i = x :: r) : frsP noP (l ++ (List.range n).flatMap f) = x := by
 obtain ⟨r,er⟩ := rng_hit hi h e;rw [hl,er];exact frs_cons _ _
theorem rp_t {b : Bool} {w n : Str} {e : Nat} (h : b = true) : rpIf b w n e = [⟨w,n,e⟩] := by rw [h];rfl
theorem rp_f {b : Bool} {w n : Str} {e : Nat} (h : b = false) : rpIf b w n e = [] := by rw [h];rfl
set_option maxHeartbeats 4000000 in
set_option maxRecDepth 100000 in
theorem declared_any (H : Hp) (f : Ft) (cs : List Value) (hf : Rep H (dFt .i64 f) cs) (w : World) (hA : Agr H w) :
 Calls Tryz.prog 32 #[.agg cs.toArray] w fun r w' => r = .returned (.agg (pbV (frsP noP ((List.range f.flags.length).flatMap (flg1 f) ++ (List.range f.links.length).flatMap (lnk1 f)))).toArray) ∧ Ext w w' := by
 obtain ⟨p1,c1,p2,c2,p3,c3,rfl,nmF,k1,k2,k3⟩ := ft_open hf;have hcapF := k1.cap;have hcapL := k2.cap;have hcapC := k3.cap;refine Sx.enter (H := H) Tryz.func32 rfl Tryz.ntmps32 rfl hA ?_;refine .sr<|.bx Z Z Z fun b1 => .al Fx.zero48 Z fun b2 => .nt<|.sq<|.sr<|.yv (.fieldAddr Z Fx.field31_1) Z<|.yv (.load Z Fx.agg27 (.tail _<|.head _) Z) Z<|.yv (.lenSl Fx.sl27 Z) Z<|.m Z Z<|.nt<|.bk<|.lp (X := Nat) [(1,_),(2,_),(11,_),(12,_)] ⟨rfl,rfl,rfl,rfl,trivial⟩ [_,_] (fun zz => [(13,.int .i64 (zz : Nat))]) (fun zz => H) (fun zz => []) (fun zz => zz ≤ f.flags.length ∧ (List.range zz).flatMap (flg1 f) = []) (fun zz => f.flags.length - zz) 0 (fun _ s => s) ⟨rfl,trivial⟩ ⟨Nat.zero_le _,rfl⟩ fun zz hC => ?_
 obtain ⟨i,hiz⟩ : ∃ v,v = zz := ⟨zz,rfl⟩;subst hiz;obtain ⟨hi0,hfi⟩ := hC;refine .sr<|.yv (.lss Z Z) Z<|.nt<|.sq<|.cd Z (fun h14 => ?_) (fun h14 => ?_)
 ·try simp only [dt] at h14
  have hi : i < f.flags.length := by omega
  obtain ⟨bE,oE,csE,eE,rE,lE,mE⟩ := k1.elem (map_at hi);cases eE;obtain ⟨rfl,nmE⟩ := fg_open rE;refine .sk<|.tN<|.sq<|.bk<|.sr<|.m Z Z<|.yv (.indexSl Fx.sl27 Z Z Z (by omega) (q := oE + i * 2) Z) Z<|.yv (.loadMW Z Fx.agg88 mE Z) Z<|.al Fx.zero88 Z fun b4 => .a Z Z<|.sW .head Z Z Fx.size88 (by simp [Value.oneCell',strV]) Z<|.ns<|.yv (.loadW Z Fx.agg31 (.tail _<|.tail _<|.head _) Z) Z<|.m Z Z<|.yv (.fieldAddr Z Fx.field88_0) Z<|.yv (.load Z Fx.agg9 (.head _) Z) Z<|.yv (.call Fx.call33 Z (fun W t => flagR_any H _ _ _ f.flags _ i (by omega) _ _ k1 W t.agr)) Z<|.nt<|.cd Z (fun h22 => ?_) (fun h22 => ?_)
  ·try simp only [dt] at h22
   have hfx : flagB (f.flags.take i) f.flags[i].nm = true := h22;refine .sr<|.yv (.fieldAddr Z Fx.field88_0) Z<|.yv (.load Z Fx.agg9 (.head _) Z) Z<|.yv (.app Z Z ((by simp only [List.length_append,List.length_cons,List.length_nil];omega))) Z<|.yv (.fieldAddr Z Fx.field88_0) Z<|.yv (.load Z Fx.agg9 (.head _) Z) Z<|.yv (.build Z (Fx.bld48_0_1_2 _ _ _)) Z<|.sW (.tail<|.head) Z Z Fx.size48 (by simp [Value.oneCell',strV]) Z<|.nt<|.rt<|.bR<|.tR<|.tR<|.bR<|.tR<|?_
   refine Sx.ret1 (.inl rfl) rfl (.cell rfl Fx.agg48 (.tail _<|.head _) rfl) fun W s => ⟨?_,s.ext⟩;rw [rng_at0 hi hfi (r := []) ((flg1_z hi).trans (rp_t hfx))];rfl
  try simp only [df] at h22
  have hfx : flagB (f.flags.take i) f.flags[i].nm = false := by simpa using h22
  exact .sk<|.bN<|.tN<|.rg<|.yv (.add Z Z (w6 (by omega))) Z<|.m Z Z<|.nt<|.ag (x := i) (i + 1) ⟨rfl,trivial⟩ ⟨rfl,rfl,rfl,rfl,trivial⟩ (fun _ s => (s.pick [1,2] _ Z Z)) ⟨by omega,rng_step hfi ((flg1_z hi).trans (rp_f hfx))⟩ (by omega)
 try simp only [df] at h14
 obtain rfl : i = f.flags.length := by omega
 have hfl := hfi;refine .ex<|.tE<|.tE<|.bE<|.tN<|.sr<|.yv (.fieldAddr Z Fx.field31_3) Z<|.yv (.load Z Fx.agg29 (.tail _<|.head _) Z) Z<|.yv (.lenSl Fx.sl29 Z) Z<|.a Z Z<|.nt<|.sq<|.sr<|.yv (.fieldAddr Z Fx.field31_2) Z<|.yv (.load Z Fx.agg28 (.tail _<|.head _) Z) Z<|.yv (.lenSl Fx.sl28 Z) Z<|.m Z Z<|.nt<|.bk<|.lp (X := Nat) [(1,_),(2,_),(5,_),(34,_),(35,_)] ⟨rfl,rfl,rfl,rfl,rfl,trivial⟩ [_,_] (fun zz => [(36,.int .i64 (zz : Nat))]) (fun zz => H) (fun zz => []) (fun zz => zz ≤ f.links.length ∧ (List.range zz).flatMap (lnk1 f) = []) (fun zz => f.links.length - zz) 0 (fun _ s => s) ⟨rfl,trivial⟩ ⟨Nat.zero_le _,rfl⟩ fun zz hC => ?_
 obtain ⟨q,hqz⟩ : ∃ v,v = zz := ⟨zz,rfl⟩;subst hqz;obtain ⟨hq0,hlq⟩ := hC;refine .sr<|.yv (.lss Z Z) Z<|.nt<|.sq<|.cd Z (fun h37 => ?_) (fun h37 => ?_)
 ·try simp only [dt] at h37
  have hq : q < f.links.length := by omega
  obtain ⟨bL,oL,csL,eL,rL,lL,mL⟩ := k2.elem (map_at hq);cases eL;have hx := List.getElem?_eq_getElem hq;generalize f.links[q] = x at hx rL;obtain ⟨rfl,nmL1,nmL2⟩ := lk_open rL;have eW : (([108,105,110,107,32] ++ x.fr) ++ [32]) ++ x.to = lnkW x := rfl;refine .sk<|.tN<|.sq<|.bk<|.sr<|.m Z Z<|.yv (.indexSl Fx.sl28 Z Z Z (by omega) (q := oL + q * 3) Z) Z<|.yv (.loadMW Z Fx.agg91 mL Z) Z<|.al Fx.zero91 Z fun b7 => .a Z Z<|.sW .head Z Z Fx.size91 (by simp [Value.oneCell',strV]) Z<|.ns<|.yv (.fieldAddr Z Fx.field91_0) Z<|.yv (.load Z Fx.agg9 (.head _) Z) Z<|.yv (.app Z Z ((by simp only [List.length_append,List.length_cons,List.length_nil];omega))) Z<|.yv (.app Z Z ((by simp only [List.length_append,List.length_cons,List.length_nil];omega))) Z<|.yv (.fieldAddr Z Fx.field91_1) Z<|.yv (.load Z Fx.agg9 (.head _) Z) Z<|.yv (.app Z Z ((by simp only [List.length_append,List.length_cons,List.length_nil];omega))) Z<|.a Z Z<|.nt<|.sq<|.sr<|.yv (.loadW Z Fx.agg31 (.tail _<|.tail _<|.head _) Z) Z<|.m Z Z<|.yv (.fieldAddr Z Fx.field91_0) Z<|.yv (.load Z Fx.agg9 (.head _) Z) Z<|.yv (.cast (v' := .int .i64 (ixI (fun y : Cp => decide (y.nm = x.fr)) f.comps)) (.call Fx.call34 Z (fun W t => componentR_any H f _ hf _ f.comps.length (Nat.le_refl _) W t.agr)) (by rw [List.take_length])) Z<|.yv (.lss Z Z) Z<|.nt<|.cd Z (fun h53 => ?_) (fun h53 => ?_)
  ·have hnf : (!(cpF f.comps x.fr).isSome) = true := by rw [cpI_f (of_decide_eq_true h53)];rfl
   refine .sr<|.m Z Z<|.yv (.fieldAddr Z Fx.field91_0) Z<|.yv (.load Z Fx.agg9 (.head _) Z) Z<|.yv (.build Z (Fx.bld48_0_1_2 _ _ _)) Z<|.sW (.tail<|.head) Z Z Fx.size48 (by simp [Value.oneCell',strV]) Z<|.nt<|.rt<|.tR<|.bR<|.tR<|.tR<|.bR<|.tR<|?_
   refine Sx.ret1 (.inl rfl) rfl (.cell rfl Fx.agg48 (.tail _<|.head _) rfl) fun W s => ⟨?_,s.ext⟩;rw [rng_at1 hfl hq hlq (r := _) (by rw [lnk1_z hx,rp_t hnf];rfl),← eW];rfl
  have hnf : (!(cpF f.comps x.fr).isSome) = false := by rw [cpI_t (of_decide_eq_false h53)];rfl
  refine .sk<|.tN<|.sq<|.sr<|.yv (.loadW Z Fx.agg31 (.tail _<|.tail _<|.head _) Z) Z<|.m Z Z<|.yv (.fieldAddr Z Fx.field91_1) Z<|.yv (.load Z Fx.agg9 (.head _) Z) Z<|.yv (.cast (v' := .int .i64 (ixI (fun y : Cp => decide (y.nm = x.to)) f.comps)) (.call Fx.call34 Z (fun W t => componentR_any H f _ hf _ f.comps.length (Nat.le_refl _) W t.agr)) (by rw [List.take_length])) Z<|.yv (.lss Z Z) Z<|.nt<|.cd Z (fun h63 => ?_) (fun h63 => ?_)
  ·have hnt : (!(cpF f.comps x.to).isSome) = true := by rw [cpI_f (of_decide_eq_true h63)];rfl
   refine .sr<|.m Z Z<|.yv (.fieldAddr Z Fx.field91_1) Z<|.yv (.load Z Fx.agg9 (.head _) Z) Z<|.yv (.build Z (Fx.bld48_0_1_2 _ _ _)) Z<|.sW (.tail<|.head) Z Z Fx.size48 (by simp [Value.oneCell',strV]) Z<|.nt<|.rt<|.tR<|.bR<|.tR<|.tR<|.bR<|.tR<|?_
   refine Sx.ret1 (.inl rfl) rfl (.cell rfl Fx.agg48 (.tail _<|.head _) rfl) fun W s => ⟨?_,s.ext⟩;rw [rng_at1 hfl hq hlq (r := _) (by rw [lnk1_z hx,rp_f hnf,rp_t hnt];rfl),← eW];rfl
  have hnt : (!(cpF f.comps x.to).isSome) = false := by rw [cpI_t (of_decide_eq_false h63)];rfl
  refine .sk<|.tN<|.sr<|.a Z Z<|.nt<|.bk<|.lp (X := Nat) [(1,_),(2,_),(5,_),(6,_),(7,_),(8,_),(34,_),(35,_),(36,_)] ⟨rfl,rfl,rfl,rfl,rfl,rfl,rfl,rfl,rfl,trivial⟩ [_,_,_] (fun zz => [(9,.int .i64 (zz : Nat))]) (fun zz => H) (fun zz => []) (fun zz => zz ≤ q ∧ sameL (f.links.take zz) x = false) (fun zz => q - zz) 0 (fun _ s => s) ⟨rfl,trivial⟩ ⟨Nat.zero_le _,rfl⟩ fun zz hC => ?_
  obtain ⟨j,hjz⟩ : ∃ v,v = zz := ⟨zz,rfl⟩;subst hjz;obtain ⟨hj0,hjs⟩ := hC;refine .sq<|.sr<|.m Z Z<|.m Z Z<|.yv (.lss Z Z) Z<|.nt<|.cd Z (fun h70 => ?_) (fun h70 => ?_)
  ·try simp only [dt] at h70
   have hj : j < q := by omega
   have hjl : j < f.links.length := by omega
   obtain ⟨bZ,oZ,csZ,eZ,rZ,lZ,mZ⟩ := k2.elem (map_at hjl);cases eZ;obtain ⟨rfl,nmZ1,nmZ2⟩ := lk_open rZ;refine .sk<|.tN<|.sq<|.bk<|.sq<|.fl (trip := [(_,_,_),(_,_,_),(_,_,_),(_,_,_),(_,_,_),(_,_,_),(_,_,_),(_,_,_),(_,_,_),(_,_,_),(_,_,_),(_,_,_),(_,_,_),(_,_,_),(_,_,_),(_,_,_),(_,_,_),(_,_,_),(_,_,_)]) 19 [(0,0),(1,0),(2,0),(3,0),(4,0),(5,0),(6,0),(7,0),(8,0),(9,0),(10,0),(11,0),(12,0),(13,0),(14,0),(15,0),(16,0),(17,0),(18,0)] (by kernel_rfl) (by kernel_rfl) Z<|.yv (.fieldAddr Z Fx.field31_2) Z<|.yv (.load Z Fx.agg28 (.tail _<|.tail _<|.head _) Z) Z<|.m Z Z<|.yv (.indexSl Fx.sl28 Z Z Z (by omega) (q := oL + j * 3) Z) Z<|.yv (.fieldAddr Z Fx.field91_0) Z<|.yv (.loadM Z Fx.agg9 mZ (k := 0) Z Z) Z<|.yv (.fieldAddr Z Fx.field91_0) Z<|.yv (.load Z Fx.agg9 (.head _) Z) Z<|.yv (.eqS Z Z) Z<|.m Z Z<|.b2 (fun h82 => ?_) (fun h82 => ?_)
   ·try simp only [dt] at h82
    skip
    refine .yg Z Z (.fieldAddr Z Fx.field31_2) Z<|.yg Z Z (.load Z Fx.agg28 (.tail _<|.tail _<|.head _) Z) Z<|.yg Z Z (.move Z) Z<|.yg Z Z (.indexSl Fx.sl28 Z Z Z (by omega) (q := oL + j * 3) Z) Z<|.yg Z Z (.fieldAddr Z Fx.field91_1) Z<|.yg Z Z (.loadM Z Fx.agg9 mZ (k := 1) Z Z) Z<|.yg Z Z (.fieldAddr Z Fx.field91_1) Z<|.yg Z Z (.load Z Fx.agg9 (.head _) Z) Z<|.yg Z Z (.eqS Z Z) Z<|.fn (tl := [_]) Z<|.yv (.pickT Z Z) Z<|.nt<|.cd Z (fun h92 => ?_) (fun h92 => ?_)
    ·try simp only [dt] at h92
     have hsm : sameL (f.links.take q) x = true := same_hit hjl hj h82 h92;refine .sr<|.m Z Z<|.yv (.fieldAddr Z Fx.field91_0) Z<|.yv (.load Z Fx.agg9 (.head _) Z) Z<|.yv (.build Z (Fx.bld48_0_1_2 _ _ _)) Z<|.sW (.tail<|.head) Z Z Fx.size48 (by simp [Value.oneCell',strV]) Z<|.nt<|.rt<|.bR<|.tR<|.tR<|.bR<|.bR<|.tR<|.tR<|.bR<|.tR<|?_
     refine Sx.ret1 (.inl rfl) rfl (.cell rfl Fx.agg48 (.tail _<|.head _) rfl) fun W s => ⟨?_,s.ext⟩;rw [rng_at1 hfl hq hlq (r := _) (by rw [lnk1_z hx,rp_f hnf,rp_f hnt,rp_t hsm];rfl),← eW];rfl
    try simp only [df] at h92
    have hne : ¬ (f.links[j].fr = x.fr ∧ f.links[j].to = x.to) := fun e => h92 e.2;exact .sk<|.bN<|.tN<|.rg<|.m Z Z<|.yv (.add Z Z (w6 (by omega))) Z<|.a Z Z<|.nt<|.ag (x := j) (j + 1) ⟨rfl,trivial⟩ ⟨rfl,rfl,rfl,rfl,rfl,rfl,rfl,rfl,rfl,trivial⟩ (fun _ s => (s.pick [0,1,2] _ Z Z)) ⟨by omega,same_step hjl hjs hne⟩ (by omega)
   try simp only [df] at h82
   have hne : ¬ (f.links[j].fr = x.fr ∧ f.links[j].to = x.to) := fun e => h82 e.1;exact .gF Z Z Z Z<|.gF Z Z Z Z<|.gF Z Z Z Z<|.gF Z Z Z Z<|.gF Z Z Z Z<|.gF Z Z Z Z<|.gF Z Z Z Z<|.gF Z Z Z Z<|.gF Z Z Z Z<|.fn (tl := [_]) Z<|.yv (.pickF Z Z) Z<|.nt<|.cF Z<|.sk<|.bN<|.tN<|.rg<|.m Z Z<|.yv (.add Z Z (w6 (by omega))) Z<|.a Z Z<|.nt<|.ag (x := j) (j + 1) ⟨rfl,trivial⟩ ⟨rfl,rfl,rfl,rfl,rfl,rfl,rfl,rfl,rfl,trivial⟩ (fun _ s => (s.pick [0,1,2] _ Z Z)) ⟨by omega,same_step hjl hjs hne⟩ (by omega)
  try simp only [df] at h70
  obtain rfl : q = j := by omega
  have hsm := hjs;exact .ex<|.tE<|.tE<|.bE<|.bN<|.tN<|.rg<|.yv (.add Z Z (w6 (by omega))) Z<|.m Z Z<|.nt<|.ag (x := q) (q + 1) ⟨rfl,trivial⟩ ⟨rfl,rfl,rfl,rfl,rfl,trivial⟩ (fun _ s => (s.pick [1,2] _ Z Z)) ⟨by omega,rng_step hlq (by rw [lnk1_z hx,rp_f hnf,rp_f hnt,rp_f hsm];rfl)⟩ (by omega)
 try simp only [df] at h37
 obtain rfl : q = f.links.length := by omega
 refine .ex<|.tE<|.tE<|.bE<|.tN<|.sr<|.yv (.build Z Fx.bld48) Z<|.sW .head Z Z Fx.size48 (by simp [Value.oneCell',strV]) Z<|.nt<|.rt<|?_
 refine Sx.ret1 (.inl rfl) rfl (.cell rfl Fx.agg48 (.head _) rfl) fun W s => ⟨?_,s.ext⟩;rw [hfl,hlq];rfl
theorem Fx.call32 : callN Tryz.prog 32 = Bool.true := by kernel_rfl
theorem Fx.call36 : callN Tryz.prog 36 = Bool.true := by kernel_rfl
theorem Fx.field48_2 : fieldN Tryz.prog 48 2 = Option.some 2 := by kernel_rfl
theorem check_hd2 {f : Ft} (h0 : checkF f = 0) {c : Cp} (hc : c ∈ f.comps) {v : List Hd} (hv : v ∈ c.vers) {h : Hd} (hh : h ∈ v) : h.ps.length ≤ 4 ∧ Sm.counts h.body ≤ 40 := by
 unfold checkF at h0
 split at h0
 ·cases h0
 rename_i h1;simp only [Bool.not_eq_false] at h1;unfold smlF at h1;simp only [Bool.and_eq_true] at h1;have k1 := h1.2.2;unfold evH at k1;have k2 : smaH h = true := List.all_eq_true.1 (List.all_eq_true.1 (List.all_eq_true.1 k1 c hc) v hv) h hh;unfold smaH at k2;simp only [Bool.and_eq_true,Bool.not_eq_true',Bool.or_eq_false_iff,decide_eq_false_iff_not] at k2;omega
theorem check_cp {f : Ft} (h0 : checkF f = 0) {c : Cp} (hc : c ∈ f.comps) : c.vers.length ≤ 3 := by
 unfold checkF at h0
 split at h0
 ·cases h0
 rename_i h1;simp only [Bool.not_eq_false] at h1;unfold smlF at h1;simp only [Bool.and_eq_true] at h1;have := List.all_eq_true.1 h1.2.1 c hc;unfold smlC at this;simp only [Bool.and_eq_true,decide_eq_true_eq] at this;omega
theorem check_ps {f : Ft} (h0 : checkF f = 0) {c : Cp} (hc : c ∈ f.comps) (n : Str) (h : Hd) (e : hdF c.vers n = some h) : h.ps.length ≤ 1000000 := by
 have := List.mem_of_find?_eq_some e;obtain ⟨v,hv,hh⟩ := List.mem_flatten.1 this;have := (check_hd2 h0 hc hv hh).1;omega
theorem cmp1_z {f : Ft} {i : Nat} {c : Cp} (h : f.comps[i]? = some c) : cmp1 f i = rpIf ((cpF (f.comps.take i) c.nm).isSome || flagB f.flags c.nm) ([99,111,109,112,111,110,101,110,116,32] ++ c.nm) c.nm 5 ++ ((List.range c.vars.length).flatMap (var1 f c) ++ (List.range c.vers.length).flatMap (ver1 f c)) := by
 unfold cmp1;rw [h]
theorem var1_z {f : Ft} {c : Cp} {i : Nat} (h : i < c.vars.length) : var1 f c i = rpIf ((varF (c.vars.take i) c.vars[i].nm).isSome || flagB f.flags c.vars[i].nm) ([118,97,114,105,97,98,108,101,32] ++ c.nm ++ [46] ++ c.vars[i].nm) c.vars[i].nm 5 := by
 unfold var1;rw [List.getElem?_eq_getElem h]
theorem ver1_z {f : Ft} {c : Cp} {n : Nat} {v : List Hd} (h : c.vers[n]? = some v) : ver1 f c n = (List.range v.length).flatMap (hdl1 f c n v) := by
 unfold ver1;rw [h]
theorem rng_split {β : Type} {f : Nat → List β} {k n : Nat} (h : k ≤ n) : ∃ r,(List.range n).flatMap f = (List.range k).flatMap f ++ r := by
 obtain ⟨d,rfl⟩ := Nat.le.dest h;induction d with
 | zero => exact ⟨[],by simp⟩
 | succ d ih =>
  obtain ⟨r,e⟩ := ih (by omega);exact ⟨r ++ f (k + d),by rw [← Nat.add_assoc,flat_succ',e,List.append_assoc]⟩
theorem frs_part {a : List Pb} {f : Nat → List Pb} {k n : Nat} (hk : k ≤ n) (ha : NzP (a ++ (List.range k).flatMap f)) (h : ¬ (frsP noP (a ++ (List.range k).flatMap f)).er = 0) : frsP noP (a ++ (List.range n).flatMap f) = frsP noP (a ++ (List.range k).flatMap f) := by
 obtain ⟨r,e⟩ := rng_split (f := f) hk;rw [e,← List.append_assoc,← frsP_app ha,frsP_keep h]
theorem frs_end {a : List Pb} {f : Nat → List Pb} {k n : Nat} {P : Pb} (hk : k ≤ n) (ha : NzP (a ++ (List.range k).flatMap f)) (hP : P = frsP noP (a ++ (List.range k).flatMap f)) (h : k = n ∨ ¬ P.er = 0) : P = frsP noP (a ++ (List.range n).flatMap f) := by
 rcases h with rfl | h
 ·exact hP
 ·rw [hP] at h ⊢;exact (frs_part hk ha h).symm
theorem frs_go {a : List Pb} {P : Pb} (ha : NzP a) (hP : P = frsP noP a) (h : P.er = 0) : a = [] ∧ P = noP := by
 have e : a = [] := frsP_none ha (by rw [← hP];exact h);exact ⟨e,by rw [hP,e,frs_nil]⟩
set_option maxHeartbeats 4000000 in
set_option maxRecDepth 100000 in
theorem checkR_any (H : Hp) (f : Ft) (cs : List Value) (hf : Rep H (dFt .i64 f) cs) (h0 : checkF f = 0) (w : World) (hA : Agr H w) :
 Calls Tryz.prog 13 #[.agg cs.toArray] w fun r w' => r = .returned (.agg (pbV (frsP noP (probs f 0))).toArray) ∧ Ext w w' := by
 obtain ⟨p1,c1,p2,c2,p3,c3,rfl,nmF,k1,k2,k3⟩ := ft_open hf;have hcapF := k1.cap;have hcapL := k2.cap;have hcapC := k3.cap;have eP : probs f 0 = ((List.range f.flags.length).flatMap (flg1 f) ++ (List.range f.links.length).flatMap (lnk1 f)) ++ (List.range f.comps.length).flatMap (cmp1 f) := by unfold probs;rw [if_pos rfl,List.nil_append,List.append_assoc]
 have eV : ∀ (c : Cp) (n : Str),((([118,97,114,105,97,98,108,101,32] ++ c.nm) ++ [46]) ++ n) = [118,97,114,105,97,98,108,101,32] ++ c.nm ++ [46] ++ n := fun _ _ => rfl;refine Sx.enter (H := H) Tryz.func13 rfl Tryz.ntmps13 rfl hA ?_;refine .sr<|.bx Z Z Z fun b1 => .al Fx.zero48 Z fun b2 => .ns<|.yv (.loadW Z Fx.agg31 (.tail _<|.head _) Z) Z<|.yv (.call Fx.call32 Z (fun W t => declared_any H f _ hf W t.agr)) Z<|.al Fx.zero48 Z fun b3 => .sW .head Z Z Fx.size48 (by simp [pbV,Value.oneCell',strV]) Z<|.nt<|.sq<|.sr<|.a Z Z<|.nt<|.bk<|.lp (X := Nat × Pb) [(1,_),(2,_),(3,_)] ⟨rfl,rfl,rfl,trivial⟩ [_,_] (fun zz => [(4,.int .i64 (zz.1 : Nat))]) (fun zz => H) (fun zz => [.box b3 [strV zz.2.wh,strV zz.2.nm,.int .i64 (zz.2.er : Nat)] 48]) (fun zz => zz.1 ≤ f.comps.length ∧ zz.2 = frsP noP (((List.range f.flags.length).flatMap (flg1 f) ++ (List.range f.links.length).flatMap (lnk1 f)) ++ (List.range zz.1).flatMap (cmp1 f))) (fun zz => f.comps.length - zz.1) (0,frsP noP ((List.range f.flags.length).flatMap (flg1 f) ++ (List.range f.links.length).flatMap (lnk1 f))) (fun _ s => s) ⟨rfl,trivial⟩ ⟨Nat.zero_le _,by simp⟩ fun zz hC => ?_
 obtain ⟨i,P⟩ := zz;dsimp only at hC ⊢;obtain ⟨hi0,hP⟩ := hC;refine .sq<|.sr<|.m Z Z<|.yv (.fieldAddr Z Fx.field31_3) Z<|.yv (.load Z Fx.agg29 (.tail _<|.tail _<|.head _) Z) Z<|.yv (.lenSl Fx.sl29 Z) Z<|.yv (.lss Z Z) Z<|.m Z Z<|.b2 (fun h17 => ?_) (fun h17 => ?_)
 ·try simp only [dt] at h17
  have hi : i < f.comps.length := by omega
  refine .gd Z Z<|.yv (.fieldAddr Z Fx.field48_2) Z<|.gd Z Z<|.yv (.load Z Fx.agg3 (.head _) Z) Z<|.gd Z Z<|.yv (.eql Z Z) Z<|.yv (.pickT Z Z) Z<|.nt<|.cd Z (fun h21 => ?_) (fun h21 => ?_)
  ·try simp only [dt] at h21
   have hPz : P.er = 0 := by omega
   obtain ⟨hn0,hP0⟩ := frs_go (.app (.app (.flat fun _ => .flg _ _) (.flat fun _ => .lnk _ _)) (.flat fun _ => .cmp _ _)) hP hPz;obtain ⟨hAn,hcn⟩ := List.append_eq_nil_iff.1 hn0;obtain ⟨bC,oC,csC,eC,rC,lC,mC⟩ := k3.elem (map_at hi);cases eC;have hx := List.getElem?_eq_getElem hi;have hcm := List.getElem_mem hi;generalize f.comps[i] = c at hx rC hcm;obtain ⟨q1,d1,q2,d2,rfl,nmC,hvC,hsC⟩ := cp_open rC;have hcapV := hvC.cap;have hcapS := hsC.cap;have hv3 := check_cp h0 hcm;refine .sk<|.tN<|.sq<|.bk<|.sr<|.yv (.fieldAddr Z Fx.field31_3) Z<|.yv (.load Z Fx.agg29 (.tail _<|.tail _<|.head _) Z) Z<|.m Z Z<|.yv (.indexSl Fx.sl29 Z Z Z (by omega) (q := oC + i * 3) Z) Z<|.yv (.loadMW Z Fx.agg78 mC Z) Z<|.al Fx.zero78 Z fun b5 => .sW .head Z Z Fx.size78 (by simp [pbV,Value.oneCell',strV]) Z<|.nt<|.sq<|.sr<|.yv (.loadW Z Fx.agg31 (.tail _<|.tail _<|.tail _<|.head _) Z) Z<|.yv (.fieldAddr Z Fx.field31_1) Z<|.yv (.load Z Fx.agg27 (.tail _<|.tail _<|.tail _<|.head _) Z) Z<|.yv (.lenSl Fx.sl27 Z) Z<|.yv (.fieldAddr Z Fx.field78_0) Z<|.yv (.load Z Fx.agg9 (.head _) Z) Z<|.yv (.cast (v' := .bool (flagB f.flags c.nm)) (.call Fx.call33 Z (fun W t => flagR_any H _ _ _ f.flags _ f.flags.length (Nat.le_refl _) _ _ k1 W t.agr)) (by rw [List.take_length])) Z<|.m Z Z<|.b2 (fun h36 => ?_) (fun h36 => ?_)
   ·try simp only [dt] at h36
    have hcx : ((cpF (f.comps.take i) c.nm).isSome || flagB f.flags c.nm) = true := by rw [h36,Bool.or_true]
    refine .gF Z Z Z Z<|.gF Z Z Z Z<|.gF Z Z Z Z<|.gF Z Z Z Z<|.gF Z Z Z Z<|.gF Z Z Z Z<|.yv (.pickT Z Z) Z<|.nt<|.cT Z<|.sr<|.yv (.fieldAddr Z Fx.field78_0) Z<|.yv (.load Z Fx.agg9 (.head _) Z) Z<|.yv (.app Z Z ((by simp only [List.length_append,List.length_cons,List.length_nil];omega))) Z<|.yv (.fieldAddr Z Fx.field78_0) Z<|.yv (.load Z Fx.agg9 (.head _) Z) Z<|.yv (.build Z (Fx.bld48_0_1_2 _ _ _)) Z<|.sW (.tail<|.tail<|.head) Z Z Fx.size48 (by simp [pbV,Value.oneCell',strV]) Z<|.nt<|.rt<|.tR<|.bR<|.tR<|.tR<|.bR<|.tR<|?_
    refine Sx.ret1 (.inl rfl) rfl (.cell rfl Fx.agg48 (.tail _<|.tail _<|.head _) rfl) fun W s => ⟨?_,s.ext⟩;rw [eP,rng_at1 hAn (by omega) hcn (r := _) (by rw [cmp1_z hx,rp_t hcx];rfl)];rfl
   try simp only [df] at h36
   have a36 : flagB f.flags c.nm = false := by simpa using h36
   refine .gd Z Z<|.yv (.loadW Z Fx.agg31 (.tail _<|.tail _<|.tail _<|.head _) Z) Z<|.gd Z Z<|.yv (.move Z) Z<|.gd Z Z<|.yv (.fieldAddr Z Fx.field78_0) Z<|.gd Z Z<|.yv (.load Z Fx.agg9 (.head _) Z) Z<|.gd Z Z<|.yv (.call Fx.call34 Z (fun W t => componentR_any H f _ hf _ i (by omega) W t.agr)) Z<|.gd Z Z<|.yv (.geq Z Z) Z<|.yv (.pickF Z Z) Z<|.nt<|.cd Z (fun h43 => ?_) (fun h43 => ?_)
   ·have hcx : ((cpF (f.comps.take i) c.nm).isSome || flagB f.flags c.nm) = true := by rw [cpI_t (by have := of_decide_eq_true h43;omega)];rfl
    refine .sr<|.yv (.fieldAddr Z Fx.field78_0) Z<|.yv (.load Z Fx.agg9 (.head _) Z) Z<|.yv (.app Z Z ((by simp only [List.length_append,List.length_cons,List.length_nil];omega))) Z<|.yv (.fieldAddr Z Fx.field78_0) Z<|.yv (.load Z Fx.agg9 (.head _) Z) Z<|.yv (.build Z (Fx.bld48_0_1_2 _ _ _)) Z<|.sW (.tail<|.tail<|.head) Z Z Fx.size48 (by simp [pbV,Value.oneCell',strV]) Z<|.nt<|.rt<|.tR<|.bR<|.tR<|.tR<|.bR<|.tR<|?_
    refine Sx.ret1 (.inl rfl) rfl (.cell rfl Fx.agg48 (.tail _<|.tail _<|.head _) rfl) fun W s => ⟨?_,s.ext⟩;rw [eP,rng_at1 hAn (by omega) hcn (r := _) (by rw [cmp1_z hx,rp_t hcx];rfl)];rfl
   have hcx : ((cpF (f.comps.take i) c.nm).isSome || flagB f.flags c.nm) = false := by rw [cpI_f (by have := of_decide_eq_false h43;omega),a36];rfl
   refine .sk<|.tN<|.sq<|.sr<|.yv (.fieldAddr Z Fx.field78_1) Z<|.yv (.load Z Fx.agg75 (.head _) Z) Z<|.yv (.lenSl Fx.sl75 Z) Z<|.m Z Z<|.nt<|.bk<|.lp (X := Nat) [(1,_),(2,_),(3,_),(4,_),(5,_),(51,_),(52,_)] ⟨rfl,rfl,rfl,rfl,rfl,rfl,rfl,trivial⟩ [_,_,_,_] (fun zz => [(53,.int .i64 (zz : Nat))]) (fun zz => H) (fun zz => []) (fun zz => zz ≤ c.vars.length ∧ (List.range zz).flatMap (var1 f c) = []) (fun zz => c.vars.length - zz) 0 (fun _ s => s) ⟨rfl,trivial⟩ ⟨Nat.zero_le _,rfl⟩ fun zz hC => ?_
   obtain ⟨j,hjz⟩ : ∃ v,v = zz := ⟨zz,rfl⟩;subst hjz;obtain ⟨hj0,hvr⟩ := hC;refine .sr<|.yv (.lss Z Z) Z<|.nt<|.sq<|.cd Z (fun h54 => ?_) (fun h54 => ?_)
   ·try simp only [dt] at h54
    have hj : j < c.vars.length := by omega
    obtain ⟨bE,oE,csE,eE,rE,lE,mE⟩ := hvC.elem (map_at hj);cases eE;obtain ⟨rfl,nmE⟩ := vr_open rE;refine .sk<|.tN<|.sq<|.bk<|.sr<|.m Z Z<|.yv (.indexSl Fx.sl75 Z Z Z (by omega) (q := oE + j * 3) Z) Z<|.yv (.loadMW Z Fx.agg98 mE Z) Z<|.al Fx.zero98 Z fun b7 => .a Z Z<|.sW .head Z Z Fx.size98 (by simp [pbV,Value.oneCell',strV]) Z<|.ns<|.yv (.loadW Z Fx.agg31 (.tail _<|.tail _<|.tail _<|.tail _<|.head _) Z) Z<|.yv (.fieldAddr Z Fx.field31_1) Z<|.yv (.load Z Fx.agg27 (.tail _<|.tail _<|.tail _<|.tail _<|.head _) Z) Z<|.yv (.lenSl Fx.sl27 Z) Z<|.yv (.fieldAddr Z Fx.field98_0) Z<|.yv (.load Z Fx.agg9 (.head _) Z) Z<|.yv (.cast (v' := .bool (flagB f.flags c.vars[j].nm)) (.call Fx.call33 Z (fun W t => flagR_any H _ _ _ f.flags _ f.flags.length (Nat.le_refl _) _ _ k1 W t.agr)) (by rw [List.take_length])) Z<|.m Z Z<|.b2 (fun h65 => ?_) (fun h65 => ?_)
    ·try simp only [dt] at h65
     have hvx : ((varF (c.vars.take j) c.vars[j].nm).isSome || flagB f.flags c.vars[j].nm) = true := by rw [h65,Bool.or_true]
     refine .gF Z Z Z Z<|.gF Z Z Z Z<|.gF Z Z Z Z<|.gF Z Z Z Z<|.gF Z Z Z Z<|.gF Z Z Z Z<|.yv (.pickT Z Z) Z<|.nt<|.cT Z<|.sr<|.yv (.fieldAddr Z Fx.field78_0) Z<|.yv (.load Z Fx.agg9 (.tail _<|.head _) Z) Z<|.yv (.app Z Z ((by simp only [List.length_append,List.length_cons,List.length_nil];omega))) Z<|.yv (.app Z Z ((by simp only [List.length_append,List.length_cons,List.length_nil];omega))) Z<|.yv (.fieldAddr Z Fx.field98_0) Z<|.yv (.load Z Fx.agg9 (.head _) Z) Z<|.yv (.app Z Z ((by simp only [List.length_append,List.length_cons,List.length_nil];omega))) Z<|.yv (.fieldAddr Z Fx.field98_0) Z<|.yv (.load Z Fx.agg9 (.head _) Z) Z<|.yv (.build Z (Fx.bld48_0_1_2 _ _ _)) Z<|.sW (.tail<|.tail<|.tail<|.head) Z Z Fx.size48 (by simp [pbV,Value.oneCell',strV]) Z<|.nt<|.rt<|.bR<|.tR<|.tR<|.bR<|.tR<|.bR<|.tR<|.tR<|.bR<|.tR<|?_
     refine Sx.ret1 (.inl rfl) rfl (.cell rfl Fx.agg48 (.tail _<|.tail _<|.tail _<|.head _) rfl) fun W s => ⟨?_,s.ext⟩;obtain ⟨r,er⟩ := rng_hit (f := var1 f c) hj hvr ((var1_z hj).trans (rp_t hvx));rw [eP,rng_at1 hAn (by omega) hcn (r := _) (by rw [cmp1_z hx,rp_f hcx,er];rfl),← eV];rfl
    try simp only [df] at h65
    have a65 : flagB f.flags c.vars[j].nm = false := by simpa using h65
    refine .gd Z Z<|.yv (.loadW Z Fx.agg78 (.tail _<|.head _) Z) Z<|.gd Z Z<|.yv (.move Z) Z<|.gd Z Z<|.yv (.fieldAddr Z Fx.field98_0) Z<|.gd Z Z<|.yv (.load Z Fx.agg9 (.head _) Z) Z<|.gd Z Z<|.yv (.call Fx.call35 Z (fun W t => variableR_any H _ _ c.vars _ j (by omega) _ _ hvC W t.agr)) Z<|.gd Z Z<|.yv (.geq Z Z) Z<|.yv (.pickF Z Z) Z<|.nt<|.cd Z (fun h72 => ?_) (fun h72 => ?_)
    ·have hvx : ((varF (c.vars.take j) c.vars[j].nm).isSome || flagB f.flags c.vars[j].nm) = true := by rw [varI_t (of_decide_eq_true h72)];rfl
     refine .sr<|.yv (.fieldAddr Z Fx.field78_0) Z<|.yv (.load Z Fx.agg9 (.tail _<|.head _) Z) Z<|.yv (.app Z Z ((by simp only [List.length_append,List.length_cons,List.length_nil];omega))) Z<|.yv (.app Z Z ((by simp only [List.length_append,List.length_cons,List.length_nil];omega))) Z<|.yv (.fieldAddr Z Fx.field98_0) Z<|.yv (.load Z Fx.agg9 (.head _) Z) Z<|.yv (.app Z Z ((by simp only [List.length_append,List.length_cons,List.length_nil];omega))) Z<|.yv (.fieldAddr Z Fx.field98_0) Z<|.yv (.load Z Fx.agg9 (.head _) Z) Z<|.yv (.build Z (Fx.bld48_0_1_2 _ _ _)) Z<|.sW (.tail<|.tail<|.tail<|.head) Z Z Fx.size48 (by simp [pbV,Value.oneCell',strV]) Z<|.nt<|.rt<|.bR<|.tR<|.tR<|.bR<|.tR<|.bR<|.tR<|.tR<|.bR<|.tR<|?_
     refine Sx.ret1 (.inl rfl) rfl (.cell rfl Fx.agg48 (.tail _<|.tail _<|.tail _<|.head _) rfl) fun W s => ⟨?_,s.ext⟩;obtain ⟨r,er⟩ := rng_hit (f := var1 f c) hj hvr ((var1_z hj).trans (rp_t hvx));rw [eP,rng_at1 hAn (by omega) hcn (r := _) (by rw [cmp1_z hx,rp_f hcx,er];rfl),← eV];rfl
    have hvx : ((varF (c.vars.take j) c.vars[j].nm).isSome || flagB f.flags c.vars[j].nm) = false := by rw [varI_f (of_decide_eq_false h72),a65];rfl
    exact .sk<|.bN<|.tN<|.rg<|.yv (.add Z Z (w6 (by omega))) Z<|.m Z Z<|.nt<|.ag (x := j) (j + 1) ⟨rfl,trivial⟩ ⟨rfl,rfl,rfl,rfl,rfl,rfl,rfl,trivial⟩ (fun _ s => (s.pick [1,2,3,4] _ Z Z)) ⟨by omega,rng_step hvr ((var1_z hj).trans (rp_f hvx))⟩ (by omega)
   try simp only [df] at h54
   obtain rfl : j = c.vars.length := by omega
   refine .ex<|.tE<|.tE<|.bE<|.tN<|.sr<|.a Z Z<|.nt<|.bk<|.pm [1,0,2,3] [_,_,_,_] Z Z<|.lp (X := Nat × Pb) [(1,_),(2,_),(3,_),(4,_),(5,_)] ⟨rfl,rfl,rfl,rfl,rfl,trivial⟩ [_,_,_] (fun zz => [(8,.int .i64 (zz.1 : Nat))]) (fun zz => H) (fun zz => [.box b3 [strV zz.2.wh,strV zz.2.nm,.int .i64 (zz.2.er : Nat)] 48]) (fun zz => zz.1 ≤ c.vers.length ∧ zz.2 = frsP noP ([] ++ (List.range zz.1).flatMap (ver1 f c))) (fun zz => c.vers.length - zz.1) (0,P) (fun _ s => s) ⟨rfl,trivial⟩ ⟨Nat.zero_le _,by dsimp only;rw [hP0];exact frs_nil.symm⟩ fun zz hC => ?_
   obtain ⟨n,Q⟩ := zz;dsimp only at hC ⊢;obtain ⟨hn0z,hQ⟩ := hC;refine .sq<|.sr<|.m Z Z<|.yv (.fieldAddr Z Fx.field78_2) Z<|.yv (.load Z Fx.agg76 (.tail _<|.head _) Z) Z<|.yv (.lenSl Fx.sl76 Z) Z<|.yv (.lss Z Z) Z<|.m Z Z<|.b2 (fun h89 => ?_) (fun h89 => ?_)
   ·try simp only [dt] at h89
    have hnl : n < c.vers.length := by omega
    refine .gd Z Z<|.yv (.fieldAddr Z Fx.field48_2) Z<|.gd Z Z<|.yv (.load Z Fx.agg3 (.head _) Z) Z<|.gd Z Z<|.yv (.eql Z Z) Z<|.yv (.pickT Z Z) Z<|.nt<|.cd Z (fun h93 => ?_) (fun h93 => ?_)
    ·try simp only [dt] at h93
     have hQz : Q.er = 0 := by omega
     obtain ⟨hm0,hQ0⟩ := frs_go (.app .nil (.flat fun _ => .ver _ _ _)) hQ hQz;obtain ⟨bV,oV,csV,eV,rV,lV,mV⟩ := hsC.elem (map_at hnl);cases eV;have hv := List.getElem?_eq_getElem hnl;have hvm := List.getElem_mem hnl;generalize c.vers[n] = v at hv rV hvm;obtain ⟨q6,d6,rfl,hhd⟩ := vs_open rV;have hcapH := hhd.cap;refine .sk<|.tN<|.sq<|.bk<|.sr<|.a Z Z<|.nt<|.bk<|.lp (X := Nat × Pb) [(1,_),(2,_),(3,_),(4,_),(5,_),(8,_)] ⟨rfl,rfl,rfl,rfl,rfl,rfl,trivial⟩ [_,_,_] (fun zz => [(9,.int .i64 (zz.1 : Nat))]) (fun zz => H) (fun zz => [.box b3 [strV zz.2.wh,strV zz.2.nm,.int .i64 (zz.2.er : Nat)] 48]) (fun zz => zz.1 ≤ v.length ∧ zz.2 = frsP noP ([] ++ (List.range zz.1).flatMap (hdl1 f c n v))) (fun zz => v.length - zz.1) (0,Q) (fun _ s => s) ⟨rfl,trivial⟩ ⟨Nat.zero_le _,by dsimp only;rw [hQ0];exact frs_nil.symm⟩ fun zz hC => ?_
     obtain ⟨k,R⟩ := zz;dsimp only at hC ⊢;obtain ⟨hk0,hR⟩ := hC;refine .sq<|.sr<|.m Z Z<|.yv (.fieldAddr Z Fx.field78_2) Z<|.yv (.load Z Fx.agg76 (.tail _<|.head _) Z) Z<|.m Z Z<|.yv (.indexSl Fx.sl76 Z Z Z (by omega) (q := oV + n * 1) Z) Z<|.yv (.loadM Z Fx.agg79 mV (k := 0) Z Z) Z<|.yv (.lenSl Fx.sl79 Z) Z<|.yv (.lss Z Z) Z<|.m Z Z<|.b2 (fun h104 => ?_) (fun h104 => ?_)
     ·try simp only [dt] at h104
      have hkl : k < v.length := by omega
      refine .gd Z Z<|.yv (.fieldAddr Z Fx.field48_2) Z<|.gd Z Z<|.yv (.load Z Fx.agg3 (.head _) Z) Z<|.gd Z Z<|.yv (.eql Z Z) Z<|.yv (.pickT Z Z) Z<|.nt<|.cd Z (fun h108 => ?_) (fun h108 => ?_)
      ·try simp only [dt] at h108
       have hRz : R.er = 0 := by omega
       obtain ⟨hr0,hR0⟩ := frs_go (.app .nil (.flat fun _ => .hdl _ _ _ _ _)) hR hRz;have hhm := List.getElem_mem hkl;have hh2 := check_hd2 h0 hcm hvm hhm;have hfr := (check_hd h0 hcm hvm hhm).2.2;have hhk := List.getElem?_eq_getElem hkl;generalize v[k] = hh at hhk hh2 hfr;exact .sk<|.tN<|.sq<|.bk<|.rg<|.yv (.loadW Z Fx.agg31 (.tail _<|.tail _<|.tail _<|.head _) Z) Z<|.yv (.loadW Z Fx.agg78 (.tail _<|.head _) Z) Z<|.m Z Z<|.m Z Z<|.yv (.call Fx.call36 Z (fun W t => handled_any H f c _ _ hf rC n k v hh hv hhk (by omega) hfr (by omega) (fun c2 hc2 => check_ps h0 hc2) (check_ps h0 hcm) W t.agr)) Z<|.sW .head Z Z Fx.size48 (by simp [pbV,Value.oneCell',strV]) Z<|.nl<|.bN<|.tN<|.rg<|.m Z Z<|.yv (.add Z Z (w6 (by omega))) Z<|.a Z Z<|.nt<|.ag (x := (k,R)) (k + 1,frsP noP (hdl1 f c n v k)) ⟨rfl,trivial⟩ ⟨rfl,rfl,rfl,rfl,rfl,rfl,trivial⟩ (fun _ s => (s.pick [0,1,2,3] _ Z Z)) ⟨by dsimp only;omega,by dsimp only;rw [flat_succ',← List.append_assoc,hr0,List.nil_append]⟩ (by dsimp only;omega)
      try simp only [df] at h108
      have hRe : R = frsP noP ([] ++ (List.range v.length).flatMap (hdl1 f c n v)) := frs_end hk0 (.app .nil (.flat fun _ => .hdl _ _ _ _ _)) hR (.inr (by omega));exact .ex<|.tE<|.tE<|.bE<|.bN<|.tN<|.rg<|.m Z Z<|.yv (.add Z Z (w6 (by omega))) Z<|.a Z Z<|.nt<|.ag (x := (n,Q)) (n + 1,R) ⟨rfl,trivial⟩ ⟨rfl,rfl,rfl,rfl,rfl,trivial⟩ (fun _ s => (s.pick [0,1,2,3] _ Z Z)) ⟨by dsimp only;omega,by dsimp only;rw [flat_succ',← List.append_assoc,hm0,List.nil_append,ver1_z hv];exact hRe⟩ (by dsimp only;omega)
     try simp only [df] at h104
     have hRe : R = frsP noP ([] ++ (List.range v.length).flatMap (hdl1 f c n v)) := frs_end hk0 (.app .nil (.flat fun _ => .hdl _ _ _ _ _)) hR (.inl (by omega));exact .gF Z Z Z Z<|.gF Z Z Z Z<|.gF Z Z Z Z<|.yv (.pickF Z Z) Z<|.nt<|.cF Z<|.ex<|.tE<|.tE<|.bE<|.bN<|.tN<|.rg<|.m Z Z<|.yv (.add Z Z (w6 (by omega))) Z<|.a Z Z<|.nt<|.ag (x := (n,Q)) (n + 1,R) ⟨rfl,trivial⟩ ⟨rfl,rfl,rfl,rfl,rfl,trivial⟩ (fun _ s => (s.pick [0,1,2,3] _ Z Z)) ⟨by dsimp only;omega,by dsimp only;rw [flat_succ',← List.append_assoc,hm0,List.nil_append,ver1_z hv];exact hRe⟩ (by dsimp only;omega)
    try simp only [df] at h93
    have hQe : Q = frsP noP ([] ++ (List.range c.vers.length).flatMap (ver1 f c)) := frs_end hn0z (.app .nil (.flat fun _ => .ver _ _ _)) hQ (.inr (by omega));exact .ex<|.tE<|.tE<|.bE<|.bN<|.tN<|.rg<|.m Z Z<|.yv (.add Z Z (w6 (by omega))) Z<|.a Z Z<|.nt<|.ag (x := (i,P)) (i + 1,Q) ⟨rfl,trivial⟩ ⟨rfl,rfl,rfl,trivial⟩ (fun _ s => (s.pick [0,2,3] _ Z Z)) ⟨by dsimp only;omega,by dsimp only;rw [flat_succ',← List.append_assoc,hn0,List.nil_append,cmp1_z hx,rp_f hcx,hvr];exact hQe⟩ (by dsimp only;omega)
   try simp only [df] at h89
   have hQe : Q = frsP noP ([] ++ (List.range c.vers.length).flatMap (ver1 f c)) := frs_end hn0z (.app .nil (.flat fun _ => .ver _ _ _)) hQ (.inl (by omega));exact .gF Z Z Z Z<|.gF Z Z Z Z<|.gF Z Z Z Z<|.yv (.pickF Z Z) Z<|.nt<|.cF Z<|.ex<|.tE<|.tE<|.bE<|.bN<|.tN<|.rg<|.m Z Z<|.yv (.add Z Z (w6 (by omega))) Z<|.a Z Z<|.nt<|.ag (x := (i,P)) (i + 1,Q) ⟨rfl,trivial⟩ ⟨rfl,rfl,rfl,trivial⟩ (fun _ s => (s.pick [0,2,3] _ Z Z)) ⟨by dsimp only;omega,by dsimp only;rw [flat_succ',← List.append_assoc,hn0,List.nil_append,cmp1_z hx,rp_f hcx,hvr];exact hQe⟩ (by dsimp only;omega)
  try simp only [df] at h21
  have hend := frs_end hi0 (.app (.app (.flat fun _ => .flg _ _) (.flat fun _ => .lnk _ _)) (.flat fun _ => .cmp _ _)) hP (.inr (by omega));refine .ex<|.tE<|.tE<|.bE<|.tN<|.sr<|.yv (.loadW Z Fx.agg48 (.head _) Z) Z<|.sW (.tail<|.head) Z Z Fx.size48 (by simp [pbV,Value.oneCell',strV]) Z<|.nt<|.rt<|?_
  refine Sx.ret1 (.inl rfl) rfl (.cell rfl Fx.agg48 (.tail _<|.head _) rfl) fun W s => ⟨?_,s.ext⟩;rw [eP,← hend];rfl
 try simp only [df] at h17
 have hend := frs_end hi0 (.app (.app (.flat fun _ => .flg _ _) (.flat fun _ => .lnk _ _)) (.flat fun _ => .cmp _ _)) hP (.inl (by omega));refine .gF Z Z Z Z<|.gF Z Z Z Z<|.gF Z Z Z Z<|.yv (.pickF Z Z) Z<|.nt<|.cF Z<|.ex<|.tE<|.tE<|.bE<|.tN<|.sr<|.yv (.loadW Z Fx.agg48 (.head _) Z) Z<|.sW (.tail<|.head) Z Z Fx.size48 (by simp [pbV,Value.oneCell',strV]) Z<|.nt<|.rt<|?_
 refine Sx.ret1 (.inl rfl) rfl (.cell rfl Fx.agg48 (.tail _<|.head _) rfl) fun W s => ⟨?_,s.ext⟩;rw [eP,← hend];rfl
theorem Fx.call12 : callN Tryz.prog 12 = Bool.true := by kernel_rfl
theorem Fx.call13 : callN Tryz.prog 13 = Bool.true := by kernel_rfl
theorem Fx.field48_0 : fieldN Tryz.prog 48 0 = Option.some 0 := by kernel_rfl
theorem Fx.field48_1 : fieldN Tryz.prog 48 1 = Option.some 1 := by kernel_rfl
theorem shapes_pb {f : Ft} {c : Nat} (h : c ≠ 0) : frsP noP (probs f c) = ⟨[102,108,101,101,116],f.nm,c⟩ := by
 unfold probs;rw [if_neg h]
 rfl
set_option maxRecDepth 100000 in
theorem same_any (H : Hp) (P : Pb) (w : World) (hA : Agr H w) :
 Calls Tryz.prog 12 #[.agg (pbV P).toArray,.int .i64 (P.er : Nat),.agg (pbV P).toArray] w fun r w' => r = .returned (.bool true) ∧ Ext w w' := by
 refine Sx.enter (H := H) Tryz.func12 rfl Tryz.ntmps12 rfl hA ?_;refine .sr<|.bx Z Z Z fun b3 => .bx Z Z Z fun b5 => .a Z Z<|.ns<|.m Z Z<|.yv (.fieldAddr Z Fx.field48_2) Z<|.yv (.load Z Fx.agg3 (.head _) Z) Z<|.yv (.cast (v' := .bool true) (.eql Z Z) (by rw [decide_eq_true Z])) Z<|.m Z Z<|.gd Z Z<|.yv (.loadW Z Fx.agg41 (.tail _<|.head _) Z) Z<|.gd Z Z<|.yv (.fieldAddr Z Fx.field48_0) Z<|.gd Z Z<|.yv (.load Z Fx.agg9 (.head _) Z) Z<|.gd Z Z<|.yv (.fieldAddr Z Fx.field48_1) Z<|.gd Z Z<|.yv (.load Z Fx.agg9 (.head _) Z) Z<|.gd Z Z<|.yv (.fieldAddr Z Fx.field48_2) Z<|.gd Z Z<|.yv (.load Z Fx.agg3 (.head _) Z) Z<|.gd Z Z<|.yv (.build Z (Fx.bld41_0_1_2 _ _ _)) Z<|.gd Z Z<|.yv (.eqA Fx.eqt41 Z Z (pbEq P P Z Z)) Z<|.yv (.pickT Z Z) Z<|.a Z Z<|.nt<|.rt<|?_
 exact Sx.ret1 (.inl rfl) rfl (.tmp rfl) fun W t => ⟨rfl,t.ext⟩
set_option maxHeartbeats 4000000 in
set_option maxRecDepth 100000 in
theorem typesChecks_any (H : Hp) (G : Gl H) (p : Pln) (l : List Chg) (cs : List Value) (v : Value) (h : Rep H (dPln p) cs) (hl : Rep H (.seq 5 (l.map dChg)) [v]) (w : World) (hA : Agr H w) (hlo : H.lo = w.heap.size) :
 Calls Tryz.prog 3 #[.agg cs.toArray,v] w fun r w' => r = .returned (.bool true) ∧ Ext w w' := by
 have I0 : Inv w H H := ⟨.refl,hA,hlo⟩;obtain ⟨p1,c1,p2,c2,rfl,_,_⟩ := pln_open h;refine Sx.enter (H := H) Tryz.func3 rfl Tryz.ntmps3 rfl hA ?_;refine .sr<|.bx Z Z Z fun b2 => .a Z Z<|.ns<|.yv (.loadW Z Fx.agg25 (.head _) Z) Z<|.m Z Z<|.cs (X := Hp × Ft × List Value) Fx.call7 Z (fun W t => build8_st I0 h hl t) Z fun z23 hz23 => ?_
 obtain ⟨Hb,f,xf⟩ := z23;dsimp only at hz23 ⊢;obtain ⟨Ib,hxf,hpf,M,D,hM,hD,hb⟩ := hz23;have ub := Ib.up;obtain ⟨q1,d1,q2,d2,q3,d3,rfl,nf,g1,g2,g3⟩ := ft_open hxf;have hcapf := g3.cap;obtain ⟨P,eP⟩ : ∃ P,P = frsP noP (probs f (checkF f)) := ⟨_,rfl⟩;obtain ⟨C,eC⟩ : ∃ C,C = checkF f := ⟨_,rfl⟩;refine .al Fx.zero31 Z fun b5 => .sW .head Z Z Fx.size31 (by simp [pbV,Value.oneCell',strV]) Z<|.ns<|.yv (.loadW Z Fx.agg31 (.head _) Z) Z<|.ct (X := List Value) Fx.call8 Z (fun W t => syntax_sy 1000 (by decide) Hb f (hb.sy hM) _ W hxf t.agr) Z fun xs H1 hxs us => ?_
 have u1 := ub.trans us;refine .al Fx.zero37 Z fun b6 => .sV .head Z Z Fx.size37 (ft_len9 hxs) hxs.one Z<|.ns<|.yv (.loadW Z Fx.agg37 (.head _) (ft_len9 hxs)) Z<|.yv (.cast (v' := .tuple #[.agg (pbV P).toArray,.int .i64 (P.er : Nat)]) (.call Fx.call9 Z (fun W t => typesCheck_any H1 (G.up u1.up) f xs hxs (hb.ev hD) (fun c hc => ⟨ft_names hxs c hc,(hb.all c hc).vers,fun v hv h hh => (((hb.all c hc).all v hv).2 h hh).cnt⟩) W t.agr)) (by rw [eP])) Z<|.m Z Z<|.yv (.extract Z Z) Z<|.yv (.extract Z Z) Z<|.al Fx.zero41 Z fun b7 => .sW .head Z Z Fx.size41 (by simp [pbV,Value.oneCell',strV]) Z<|.a Z Z<|.nt<|.sq<|.sr<|.yv (.loadW Z Fx.agg37 (.tail _<|.head _) (ft_len9 hxs)) Z<|.yv (.cast (v' := .int .i64 (C : Nat)) (.call Fx.call10 Z (fun W t => check_any H1 (G.up u1.up) f xs hxs (hb.ev hD) W t.agr)) (by rw [eC])) Z<|.a Z Z<|.ns<|.m Z Z<|.yv (.neq Z Z) Z<|.nt<|.cd Z (fun h23 => ?_) (fun h23 => ?_)
 ·try simp only [dt] at h23
  have hck : checkF f ≠ 0 := by omega
  have eP2 : P = ⟨[102,108,101,101,116],f.nm,C⟩ := by rw [eP,eC];exact shapes_pb hck
  have eQ : P.er = C := by rw [eP2]
  refine .sr<|.yv (.call Fx.call11 Z (fun W t => awake8_any H1 (G.up u1.up) W t.agr)) Z<|.m Z Z<|.gd Z Z<|.yv (.move Z) Z<|.gd Z Z<|.yv (.move Z) Z<|.gd Z Z<|.yv (.cast (v' := .bool true) (.eql Z Z) (by rw [eQ,decide_eq_true Z])) Z<|.yv (.pickT Z Z) Z<|.m Z Z<|.gd Z Z<|.yv (.loadW Z Fx.agg41 (.head _) Z) Z<|.gd Z Z<|.yv (.fieldAddr Z Fx.field31_0) Z<|.gd Z Z<|.yv (.load Z Fx.agg9 (.tail _<|.tail _<|.head _) Z) Z<|.gd Z Z<|.yv (.move Z) Z<|.gd Z Z<|.yv (.build Z (Fx.bld41_0_1_2 _ _ _)) Z<|.gd Z Z<|.yv (.eqA Fx.eqt41 Z Z (pbEq P ⟨[102,108,101,101,116],f.nm,C⟩ eP2 Z)) Z<|.yv (.pickT Z Z) Z<|.a Z Z<|.nt<|.rt<|.tR<|?_
  exact Sx.ret1 (.inl rfl) rfl (.tmp rfl) fun W s => ⟨rfl,s.ext⟩
 try simp only [df] at h23
 have hck : checkF f = 0 := by omega
 rw [hck] at eP;refine .sk<|.tN<|.sq<|.fl (trip := [(_,_,_),(_,_,_),(_,_,_),(_,_,_),(_,_,_),(_,_,_),(_,_,_),(_,_,_)]) 8 [(0,0),(1,0),(2,0),(3,0),(4,0),(5,0),(6,0),(7,0)] (by kernel_rfl) (by kernel_rfl) Z<|.yv (.call Fx.call11 Z (fun W t => awake8_any H1 (G.up u1.up) W t.agr)) Z<|.m Z Z<|.yg Z Z (.loadW Z Fx.agg41 (.head _) Z) Z<|.yg Z Z (.move Z) Z<|.yg Z Z (.loadW Z Fx.agg31 (.tail _<|.tail _<|.head _) Z) Z<|.yg Z Z (.cast (v' := .agg (pbV P).toArray) (.call Fx.call13 Z (fun W t => checkR_any H1 f _ (hxf.up us.up) hck W t.agr)) (by rw [eP])) Z<|.yg Z Z (.call Fx.call12 Z (fun W t => same_any H1 P W t.agr)) Z<|.yv (.pickT Z Z) Z<|.fn (tl := [_]) Z<|.a Z Z<|.nt<|.rt<|?_
 exact Sx.ret1 (.inl rfl) rfl (.tmp rfl) fun W s => ⟨rfl,s.ext⟩
end Go.Proofs.YtohfacbajcenoaaGreatDoor
