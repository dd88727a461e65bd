/- Texts of the proof, one behind the other. -/
import Derived.Test.YtidclioghdbphaaGreatDoorMe
set_option linter.all false
set_option maxRecDepth 100000
namespace Go.Proofs.YtidclioghdbphaaGreatDoor
open Go.RowKit Go.Par Go.Sx Tryz
set_option maxHeartbeats 2000000 in
theorem count_any (H:Hp) (f:Fm) (most N:Nat) (hm:most<=9223372036854775807) (hb:blF N f=true) (hc:f.count<=9000000000000000000\/most<=1000000000000) (hN:N * (most+1)<=100000000000\/N * f.count<=100000000000) (hN1:N<=100000000000) (cs:List Value) (w:World) (h:Rep H (dFm .u8 f) cs) (hA:Agr H w):Calls prg 34 #[.agg cs.toArray,iN most] w λr w'=>r=.returned (iN (min f.count (most+1)))/\Ext w w':=by
 obtain ⟨op,nm,fd,a,b,ex,args⟩:=f;obtain ⟨p1,c1,p2,c2,rfl,hs1,hs2,hnm,hfd⟩:=fm_open h;refine Sx.enter (H:=H) func34 rfl ntmps34 rfl hA ?_;refine .sr<|.bx Z Z Z λb2=>.a Z Z<|.ns<|.a Z Z<|.ns<|.yw (.loadW Z Fx.agg35 Hm Z)<|.blR (z:=7) Z (Fx.bsl33_1 _ _ _ _ _ _ _) Z Z (by simp [maxLen]) λb13=>.aq Z<|.sq<|?_
 refine Sx.row0 76 4 ?_;refine .rg<|.aq Z<|.sq<|.bk<|.pm [1,0,2] [_,_,_] Z Z<|.lp (X:=Nat × List Fm × List Ex × Value × Value × List Value × List Value) [(1,_)] ⟨Z,Jt⟩ [] (λz=>[(5,iN z.1),(6,z.2.2.2.1),(7,z.2.2.2.2.1)]) (λz=>H) (λz=>[.row 35 7 z.2.2.2.1 z.2.1.length z.2.2.2.2.2.1,.row 76 4 z.2.2.2.2.1 z.2.2.1.length z.2.2.2.2.2.2,.box b2 [.int .u8 op.toNat,strV nm,strV fd,.int .i64 a.toInt,.int .i64 b.toInt,.slice p1 ex.length c1,.slice p2 args.length c2] 35]) (λz=>RepZ H 7 (z.2.1.map (dFm .u8)) z.2.2.2.2.2.1/\RepZ H 4 (z.2.2.1.map (dEx .u8)) z.2.2.2.2.2.2/\z.1+(Fm.counts z.2.1+Ex.counts z.2.2.1)=Fm.count (.mk op nm fd a b ex args)/\z.1<=most+1/\(∀ g∈z.2.1,blF N g=true)/\(∀ e∈z.2.2.1,blE N e=true)/\(z.2.1.length+z.2.2.1.length<=1+2 * (N * z.1))) (λz=>Fm.count (.mk op nm fd a b ex args) - z.1) (0,[Fm.mk op nm fd a b ex args],[],.slice (some ⟨b13,0,none⟩) 1 1,.slice none 0 0,[.int .u8 op.toNat,strV nm,strV fd,.int .i64 a.toInt,.int .i64 b.toInt,.slice p1 ex.length c1,.slice p2 args.length c2],[]) (λ_ s=>s) ⟨Z,Z,Z,Jt⟩ ⟨.single h Z,.nil,by rw [Fm.counts,Fm.counts,Ex.counts];omega,Al_Nat_zero_le _,λg hg=>by rw [Al_List_mem_singleton.1 hg];exact hb,λe he=>(by cases he),by simp⟩ λz hC=>?_
 obtain ⟨n,fs,ts,rf,rt,xf,xt⟩:=z;obtain ⟨zf,zt,hcnt,hn,hbf,hbt,hlen⟩:=hC;dsimp only at zf zt hcnt hn hbf hbt hlen|-;have hNn:N * n<=N * (most+1):=Al_Nat_mul_le_mul_left N hn;have hNc:N * n<=N * Fm.count (.mk op nm fd a b ex args):=Al_Nat_mul_le_mul_left N (by omega)
 have hNm:N * n<=100000000000:=by
  rcases hN with h | h <;> omega
 refine At.ra (size:=7) (r:=rf) (e:=35) Hm λpf cf e=>?_;subst e;refine At.ra (size:=4) (r:=rt) (e:=76) mem1 λpt ct e=>?_;subst e;refine .sq<|.sm Z<|.mv Z<|.yw (.leq Z Z)<|.mv Z<|.b2 (λh17=>?_) (λh17=>?_)
 ·have hle:n<=most:=by have:=Al_of_decide_eq_true h17;omega
  refine .gy (.move Z)<|.gy (.lenSl Fx.sl33 Z)<|.gy (.move Z)<|.gy (.lenSl Fx.sl32 Z)<|.gy (.add Z Z (c:=((fs.length+ts.length:Nat):Int)) ((w6 (by omega)).trans (by omega)))<|.gy (.gtr Z Z)<|.yw (.pickT Z Z)<|.nt<|.cd Z (λh24=>?_) (λh24=>?_)
  ·have hpos:0<fs.length+ts.length:=by have:=Al_of_decide_eq_true h24;omega
   replace h24:=hpos;refine .sk<|.tN<|.bk<|.sm Z<|.yw (.add Z Z (c:=((n+1:Nat):Int)) ((w6 (by omega)).trans (by omega)))<|.aq Z<|.sq<|.sm Z<|.yw (.lenSl Fx.sl32 Z)<|.yw (.sub Z Z (c:=(ts.length:Int) - 1) (w6 (by omega)))<|.a Z Z<|.ns<|.mv Z<|.yw (.geq Z Z)<|.nt<|.ce Z (λh31=>?_) (λh31=>?_)
   ·obtain ⟨ts0,e0,rfl⟩:∃ ts0 e0,ts=ts0++[e0]:=by
     rcases List.eq_nil_or_concat ts with h | ⟨t,x,h⟩
     ·subst h;exact (by simp at h31)
     ·exact ⟨t,x,by rw [h,List.concat_eq_append]⟩
    have hl0:(ts0++[e0]).length=ts0.length+1:=by rw [Al_List_length_append];rfl
    refine Sx.rowCase (size:=4) (r:=.slice pt (ts0++[e0]).length ct) (e:=76) mem1 (by rw [hl0];exact Nat.succ_pos _) λg c e hgc=>?_;injection e with e3 _ e4
    subst e3 e4;obtain ⟨cs0,r0,hc0,hx0⟩:=RepZ.at zt (i:=ts0.length) (d:=dEx .u8 e0) (by rw [Al_List_map_append,List.getElem?_append_right (by rw [Al_List_length_map];exact Al_Nat_le_refl _),Al_List_length_map,Al_Nat_sub_self];rfl);obtain ⟨op0,nm0,m0,args0⟩:=e0;obtain ⟨p0,c0,rfl,hs0,_⟩:=ex_open r0;have hb0:=(blE_mk.1 (hbt _ (Al_List_mem_append.2 (.inr (Al_List_mem_singleton.2 rfl)))))
    have hz0:RepZ H 4 (ts0.map (dEx .u8)) (xt.take (ts0.length * 4)):=by
     have h:=RepZ.take ts0.length zt;rw [Al_List_map_append,List.take_left' (by rw [Al_List_length_map])] at h;exact h
    rw [ex_counts_app,Ex.counts,Ex.counts,ex_count] at hcnt;rw [hl0] at hlen;have hNs:N * (n+1)=N * n+N:=Nat.mul_succ N n;refine .sm Z<|.mv Z<|.yw (.indexSl Fx.sl32 Z Z (i:=ts0.length) (by rw [hl0];omega) (by rw [hl0];omega) (q:=ts0.length * 4) (by omega))<|.yw (.loadR (vs:=[.int .u8 op0.toNat,strV nm0,.int .i64 m0.toInt,.slice p0 args0.length c0]) Z Fx.agg76 mem1 Z hx0)<|.al Fx.zero76 Z λb9=>.sX .head Z Z Fx.size76 Z<|?_
    refine Sx.At.rcut (size:=4) (m:=ts0.length) (ys:=xt.take (ts0.length * 4)) upd2 (by rw [hl0];exact Nat.le_succ _) rfl ?_;exact .nt<|.sq<|.fL 6 [(0,0),(1,0),(2,0),(3,0),(4,0),(5,3)]<|.mv Z<|.mv Z<|.yw (.cutHi Fx.sl32 Z Z (h:=ts0.length) (by rw [hl0];omega) (by rw [hl0] at hgc;omega) (λq e=>by cases e;rfl))<|.fA Z Fx.field76_3<|.lD Z Fx.agg32 Hm Z<|.apD Fx.row32 Z (λ_ _=>upd2) Z hs0 (by simp only [maxLen];omega) (by omega) Z (λ_ _=>(.d3<|.d2<|.nl)) λnews pN cN hzn=>.fn (tl:=[_]) Z<|.aq Z<|.ex<|.tE<|.bE<|.tN<|.ag (x:=(n,fs,ts0++[Ex.mk op0 nm0 m0 args0],Value.slice pf fs.length cf,Value.slice (some ⟨g,0,none⟩) (ts0++[Ex.mk op0 nm0 m0 args0]).length ct,xf,xt)) (n+1,fs,ts0++args0,Value.slice pf fs.length cf,Value.slice pN (ts0.length+args0.length) cN,xf,xt.take (ts0.length * 4)++news) ⟨Z,Z,Z,Jt⟩ ⟨Z,Jt⟩ (λ_ s=>by dsimp only;rw [Al_List_length_append];exact (s.pick [1,2,3] _ Z Z)) ⟨zf,by rw [Al_List_map_append];exact hz0.app hzn,by dsimp only;rw [ex_counts_app];omega,by dsimp only;omega,hbf,λe he=>by rcases Al_List_mem_append.1 he with h | h;exact hbt e (Al_List_mem_append.2 (.inl h));exact hb0.2 e h,by dsimp only;rw [Al_List_length_append,hNs];omega⟩ (by dsimp only;omega)
   have hts:ts=[]:=by
    cases ts with
    | nil=>rfl
    | cons t r=>simp at h31 <;> omega
   subst hts;obtain rfl:xt=[]:=zt
   obtain ⟨fs0,f0,rfl⟩:∃ fs0 f0,fs=fs0++[f0]:=by
    rcases List.eq_nil_or_concat fs with h | ⟨t,x,h⟩
    ·subst h;simp at h24
    ·exact ⟨t,x,by rw [h,List.concat_eq_append]⟩
   have hl0:(fs0++[f0]).length=fs0.length+1:=by rw [Al_List_length_append];rfl
   refine Sx.rowCase (size:=7) (r:=.slice pf (fs0++[f0]).length cf) (e:=35) Hm (by rw [hl0];exact Nat.succ_pos _) λg c e hgc=>?_;injection e with e3 _ e4
   subst e3 e4;obtain ⟨cs0,r0,hc0,hx0⟩:=RepZ.at zf (i:=fs0.length) (d:=dFm .u8 f0) (by rw [Al_List_map_append,List.getElem?_append_right (by rw [Al_List_length_map];exact Al_Nat_le_refl _),Al_List_length_map,Al_Nat_sub_self];rfl);obtain ⟨op0,nm0,fd0,a0,b0,ex0,args0⟩:=f0;obtain ⟨q1,d1,q2,d2,rfl,hs0,hs3,_,_⟩:=fm_open r0;have hb0:=(blF_mk.1 (hbf _ (Al_List_mem_append.2 (.inr (Al_List_mem_singleton.2 rfl)))))
   have hz0:RepZ H 7 (fs0.map (dFm .u8)) (xf.take (fs0.length * 7)):=by
    have h:=RepZ.take fs0.length zf;rw [Al_List_map_append,List.take_left' (by rw [Al_List_length_map])] at h;exact h
   rw [fm_counts_app,Fm.counts,Fm.counts,fm_count] at hcnt;rw [hl0] at hlen;have hNs:N * (n+1)=N * n+N:=Nat.mul_succ N n;refine .sk<|.tN<|.sm Z<|.yw (.lenSl Fx.sl33 Z)<|.yw (.sub Z Z (c:=((fs0.length:Nat):Int)) (by rw [hl0];exact (w6 (by omega)).trans (by omega)))<|.a Z Z<|.ns<|.mv Z<|.mv Z<|.yw (.indexSl Fx.sl33 Z Z (i:=fs0.length) Z (by rw [hl0];omega) (q:=fs0.length * 7) (by omega))<|.yw (.loadR (vs:=cFm .u8 op0 nm0 fd0 a0 b0 (.slice q1 ex0.length d1) (.slice q2 args0.length d2)) Z Fx.agg35 Hm Z hx0)<|.al Fx.zero35 Z λb11=>.sX .head Z Z Fx.size35 Z<|?_
   refine Sx.At.rcut (size:=7) (m:=fs0.length) (ys:=xf.take (fs0.length * 7)) upd1 (by rw [hl0];exact Nat.le_succ _) rfl ?_;refine .nt<|.sq<|.fL 6 [(0,0),(1,0),(2,0),(3,0),(4,0),(5,3)]<|.mv Z<|.mv Z<|.yw (.cutHi Fx.sl33 Z Z (h:=fs0.length) Z (by rw [hl0] at hgc;omega) (λq e=>by cases e;rfl))<|.fA Z Fx.field35_6<|.lD Z Fx.agg33 Hm Z<|.apD Fx.row33 Z (λ_ _=>upd1) Z hs3 (by simp only [maxLen];omega) (by omega) Z (λ_ _=>(.d3<|.d2<|.nl)) λnews pN cN hzn=>.fn (tl:=[_]) Z<|.aq Z<|.rg<|.mv Z<|.fA Z Fx.field35_5<|.lD Z Fx.agg32 Hm Z<|.apD Fx.row32 Z (λ_ _=>upd2) Z hs0 (by simp only [maxLen];omega) (by simp only [Al_List_length_nil];omega) Z λnews2 r2 hzn2=>?_
   rw [show ([]:List Ex).length+ex0.length=ex0.length from Al_Nat_zero_add _];exact .a Z Z<|.nl<|.bN<|.tN<|.ag (x:=(n,fs0++[Fm.mk op0 nm0 fd0 a0 b0 ex0 args0],([]:List Ex),Value.slice (some ⟨g,0,none⟩) (fs0++[Fm.mk op0 nm0 fd0 a0 b0 ex0 args0]).length cf,Value.slice pt 0 ct,xf,([]:List Value))) (n+1,fs0++args0,ex0,Value.slice pN (fs0.length+args0.length) cN,r2,xf.take (fs0.length * 7)++news,news2) ⟨Z,Z,Z,Jt⟩ ⟨Z,Jt⟩ (λ_ s=>by dsimp only;rw [Al_List_length_append];exact (s.pick [1,2,3] _ Z Z)) ⟨by rw [Al_List_map_append];exact hz0.app hzn,hzn2,by dsimp only;rw [fm_counts_app];rw [Ex.counts] at hcnt;omega,by dsimp only;omega,λe he=>by rcases Al_List_mem_append.1 he with h | h;exact hbf e (Al_List_mem_append.2 (.inl h));exact hb0.2 e h,λe he=>hb0.1.2.2 e he,by dsimp only;rw [Al_List_length_append,hNs];simp only [Al_List_length_nil] at hlen;omega⟩ (by dsimp only;omega)
  have hz24:¬ 0<fs.length+ts.length:=λe=>Al_of_decide_eq_false h24 (by omega);refine .ex<|.eb<|.sm Z<|.az Z<|?_
  refine y9 Z Z λW s=>⟨?_,s.ext⟩
  first
   | (rw [show n=min (Fm.count (.mk op nm fd a b ex args)) (most+1) by omega])
   | (rw [show n=min (Fm.count (.mk op nm fd a b ex args)) (most+1) from by (have h1:fs=[]:=Al_List_eq_nil_of_length_eq_zero (by omega));(have h2:ts=[]:=Al_List_eq_nil_of_length_eq_zero (by omega));subst h1;subst h2;rw [Fm.counts,Ex.counts] at hcnt;omega])
 have hgt:¬ n<=most:=λe=>Al_of_decide_eq_false h17 (by omega);refine .gG<|.gG<|.gG<|.gG<|.gG<|.gG<|.yw (.pickF Z Z)<|.nt<|.cF Z<|.ex<|.eb<|.sm Z<|.az Z<|?_
 refine y9 Z Z λW s=>⟨?_,s.ext⟩
 first
  | (rw [show n=min (Fm.count (.mk op nm fd a b ex args)) (most+1) by omega])
  | (rw [show n=min (Fm.count (.mk op nm fd a b ex args)) (most+1) from by (have h1:fs=[]:=Al_List_eq_nil_of_length_eq_zero (by omega));(have h2:ts=[]:=Al_List_eq_nil_of_length_eq_zero (by omega));subst h1;subst h2;rw [Fm.counts,Ex.counts] at hcnt;omega])
theorem Fx.call34:callN prg 34=true:=by kernel_rfl
theorem Fx.call36:callN prg 36=true:=by kernel_rfl
theorem Fx.call37:callN prg 37=true:=by kernel_rfl
theorem Fx.call38:callN prg 38=true:=by kernel_rfl
variable {f:Fm}
theorem fck1 (h:60<f.count):fcheck f=3:=by unfold fcheck;rw [Al_if_pos (.inl h)]
theorem fck2 (h:Fm.all shalB f=false):fcheck f=3:=by unfold fcheck;rw [Al_if_pos (.inr h)]
theorem fck0 (h:¬ 60<f.count) (h2:Fm.all shalB f=true):¬ (60<f.count\/Fm.all shalB f=false):=λe=>by
 rcases e with e | e
 ·exact h e
 ·rw [h2] at e;cases e
theorem fck3 (h:¬ 60<f.count) (h2:Fm.all shalB f=true) (h3:Fm.all namdB f=false):fcheck f=9:=by unfold fcheck;rw [Al_if_neg (fck0 h h2),Al_if_pos h3]
theorem fck4 (h:¬ 60<f.count) (h2:Fm.all shalB f=true) (h3:Fm.all namdB f=true) (h4:Fm.all formB f=false):fcheck f=6:=by unfold fcheck;rw [Al_if_neg (fck0 h h2),Al_if_neg (by rw [h3];decide),Al_if_pos h4]
theorem fck5 (h:¬ 60<f.count) (h2:Fm.all shalB f=true) (h3:Fm.all namdB f=true) (h4:Fm.all formB f=true):fcheck f=0:=by unfold fcheck;rw [Al_if_neg (fck0 h h2),Al_if_neg (by rw [h3];decide),Al_if_neg (by rw [h4];decide)]
theorem fcheck_any (H:Hp) (G:Gl H) (Gt:Gf H) (f:Fm) (hb:blF 600000 f=true) (cs:List Value) (w:World) (h:Rep H (dFm .u8 f) cs) (hA:Agr H w):Calls prg 15 #[.agg cs.toArray] w λr w'=>r=.returned (iN (fcheck f))/\Ext w w':=by
 obtain ⟨op,nm,fd,a,b,ex,args⟩:=f;obtain ⟨p1,c1,p2,c2,rfl,hs1,hs2,hnm,hfd⟩:=fm_open h;refine Sx.enter (H:=H) func15 rfl ntmps15 rfl hA ?_;refine .sr<|.bx Z Z Z λb1=>.aq Z<|.sq<|.bk<|.sq<|.sr<|.yw (.loadW Z Fx.agg35 Hm Z)<|.yw (.call Fx.call34 Z (λW s=>count_any H (.mk op nm fd a b ex args) 60 600000 (by decide) hb (.inr (by decide)) (.inl (by decide)) (by decide) _ W h s.agr))<|.yw (.gtr Z Z)<|.aq Z<|.cr Z (λh3=>?_) (λh3=>?_)
 ·have hc:60<Fm.count (.mk op nm fd a b ex args):=by have:=Al_of_decide_eq_true h3;omega
  refine .sk<|.tN<|.cT Z<|.sr<|.az Z<|.bR<|.tR<|?_
  refine y9 Z Z λW s=>⟨?_,s.ext⟩
  first
   | (rw [fck1 hc];rfl)
   | (rw [fck2 hs];rfl)
   | (rw [fck3 hc hs hn];rfl)
   | (rw [fck4 hc hs hn hf];rfl)
   | (rw [fck5 hc hs hn hf];rfl)
 have hc:¬ 60<Fm.count (.mk op nm fd a b ex args):=λe=>Al_of_decide_eq_false h3 (by omega);refine .rg<|.yw (.loadW Z Fx.agg35 Hm Z)<|.yw (.call Fx.call35 Z (λW s=>every_any H 36 shalB depB Fx.call36 (λf hp=>shallow_any H f hp) _ (fm_all_dep _ (by omega)) _ W h s.agr))<|.yw (.not Z)<|.aq Z<|.cr Z (λh3=>?_) (λh3=>?_)
 ·have hs:Fm.all shalB (.mk op nm fd a b ex args)=false:=by simpa using h3
  refine .sr<|.az Z<|.bR<|.tR<|?_
  refine y9 Z Z λW s=>⟨?_,s.ext⟩
  first
   | (rw [fck1 hc];rfl)
   | (rw [fck2 hs];rfl)
   | (rw [fck3 hc hs hn];rfl)
   | (rw [fck4 hc hs hn hf];rfl)
   | (rw [fck5 hc hs hn hf];rfl)
 have hs:Fm.all shalB (.mk op nm fd a b ex args)=true:=by simpa using h3
 refine .sr<|.yw (.loadW Z Fx.agg35 Hm Z)<|.yw (.call Fx.call35 Z (λW s=>every_any H 37 namdB (λ_=>true) Fx.call37 (λf _=>named_any H G Gt f) _ (fm_all_true _) _ W h s.agr))<|.yw (.not Z)<|.aq Z<|.cd Z (λh10=>?_) (λh10=>?_)
 ·have hn:Fm.all namdB (.mk op nm fd a b ex args)=false:=by simpa using h10
  refine .sr<|.az Z<|.bR<|.tR<|?_
  refine y9 Z Z λW s=>⟨?_,s.ext⟩
  first
   | (rw [fck1 hc];rfl)
   | (rw [fck2 hs];rfl)
   | (rw [fck3 hc hs hn];rfl)
   | (rw [fck4 hc hs hn hf];rfl)
   | (rw [fck5 hc hs hn hf];rfl)
 have hn:Fm.all namdB (.mk op nm fd a b ex args)=true:=by simpa using h10
 refine .sr<|.yw (.loadW Z Fx.agg35 Hm Z)<|.yw (.call Fx.call35 Z (λW s=>every_any H 38 formB (λ_=>true) Fx.call38 (λf _=>formed_any H Gt f) _ (fm_all_true _) _ W h s.agr))<|.yw (.not Z)<|.aq Z<|.cd Z (λh14=>?_) (λh14=>?_)
 ·have hf:Fm.all formB (.mk op nm fd a b ex args)=false:=by simpa using h14
  refine .sr<|.az Z<|.bR<|.tR<|?_
  refine y9 Z Z λW s=>⟨?_,s.ext⟩
  first
   | (rw [fck1 hc];rfl)
   | (rw [fck2 hs];rfl)
   | (rw [fck3 hc hs hn];rfl)
   | (rw [fck4 hc hs hn hf];rfl)
   | (rw [fck5 hc hs hn hf];rfl)
 have hf:Fm.all formB (.mk op nm fd a b ex args)=true:=by simpa using h14
 refine .sk<|.bN<|.tN<|.sr<|.az Z<|?_
 refine y9 Z Z λW s=>⟨?_,s.ext⟩
 first
  | (rw [fck1 hc];rfl)
  | (rw [fck2 hs];rfl)
  | (rw [fck3 hc hs hn];rfl)
  | (rw [fck4 hc hs hn hf];rfl)
  | (rw [fck5 hc hs hn hf];rfl)
noncomputable def eqP (p:Prop):Bool:=@decide p (Classical.propDecidable p)
theorem eqP_iff {p:Prop} :eqP p=true↔p:=by unfold eqP;exact @decide_eq_true_iff p (Classical.propDecidable p)
theorem eqP_false {p:Prop} :eqP p=false↔¬ p:=⟨λh k=>(by rw [eqP_iff.2 k] at h;cases h),λh=>(by cases e:eqP p with | false=>rfl | true=>exact absurd (eqP_iff.1 e) h)⟩
def EqAt (gf:FuncId) {α:Type} (d:α->D) (H:Hp) (a b:α):Prop:=∀ (ca cb:List Value) (w:World),Rep H (d a) ca->Rep H (d b) cb->Agr H w->Calls prg gf #[.agg ca.toArray,.agg cb.toArray] w λr w'=>r=.returned (.bool (eqP (a=b)))/\Ext w w'
variable {k:Nat}
theorem take_eq_succ {α:Type} {l m:List α} (h:k<l.length) (h2:k<m.length) (ht:l.take k=m.take k) (he:l[k]=m[k]):l.take (k+1)=m.take (k+1):=by rw [take_snoc h,take_snoc h2,ht,he]
theorem eqFuncE (H:Hp) (gf:FuncId) (hgf:callN prg gf=true) (l m:List Ex) (hq:∀ a∈l,∀ b,EqAt gf (dEx .u8) H a b) (v u:Value) (hs:Rep H (.seq 4 (l.map (dEx .u8))) [v]) (ht:Rep H (.seq 4 (m.map (dEx .u8))) [u]) (w:World) (hA:Agr H w) :
 Calls prg 51 #[v,u,.func (.func gf) #[] #[]] w λr w'=>r=.returned (.bool (eqP (l=m)))/\Ext w w':=by
 obtain ⟨p,c,e,_⟩:=hs.sl;simp only [Al_List_cons_injEq,Al_and_true,Al_List_length_map] at e;subst e;obtain ⟨p2,c2,e,_⟩:=ht.sl;simp only [Al_List_cons_injEq,Al_and_true,Al_List_length_map] at e;subst e;have hcap:=hs.cap;have hcap2:=ht.cap;refine Sx.enter (H:=H) func51 rfl ntmps51 rfl hA ?_;refine .sr<|.aq Z<|.sq<|.sm Z<|.yw (.lenSl Fx.sl32 Z)<|.mv Z<|.yw (.lenSl Fx.sl32 Z)<|.yw (.neq Z Z)<|.nt<|.ce Z (λh14=>?_) (λh14=>?_)
 ·have hne:¬ l=m:=λe=>by rw [e] at h14;exact h14 rfl
  refine .sr<|.az Z<|.tR<|?_
  refine y9 Z Z λW s=>⟨retB ?_,s.ext⟩
  first
   | (rw [eqP_iff];exact ⟨λh=>(by cases h),λh=>absurd h hne⟩)
   | (rw [eqP_iff];exact ⟨λ_=>heq,λ_=>rfl⟩)
 have hlen:l.length=m.length:=by omega
 refine .sk<|.tN<|.sq<|.sm Z<|.yw (.lenSl Fx.sl32 Z)<|.mv Z<|.nt<|.bk<|.lp (X:=Nat) [(1,_),(2,_),(15,_),(16,_)] ⟨Z,Z,Z,Z,Jt⟩ [] (λk=>[(17,iN k)]) (λk=>H) (λk=>[]) (λk=>k<=l.length/\l.take k=m.take k) (λk=>l.length - k) 0 (λ_ s=>s) ⟨Z,Jt⟩ ⟨by omega,Z⟩ λk hC=>?_
 obtain ⟨hk0,hal⟩:=hC;refine .sr<|.yw (.lss Z Z)<|.nt<|.sq<|.ce Z (λh18=>?_) (λh18=>?_)
 ·have hk:k<l.length:=by omega
  have hkm:k<m.length:=by omega
  obtain ⟨bE,oE,cE,hpE,rE,lE,mE⟩:=hs.elem (map_at hk);cases hpE;obtain ⟨bF,oF,cF,hpF,rF,lF,mF⟩:=ht.elem (map_at hkm);cases hpF;refine .sk<|.tN<|.sq<|.bk<|.sm Z<|.yw (.indexSl Fx.sl32 Z Z Z (by omega) (q:=oE+k * 4) Z)<|.yw (.loadMW Z Fx.agg76 mE lE)<|.al Fx.zero76 Z λb8=>.a Z Z<|.sV .head Z Z Fx.size76 lE rE.one Z<|.ns<|.mv Z<|.mv Z<|.yw (.indexSl Fx.sl32 Z Z Z (by omega) (q:=oF+k * 4) Z)<|.yw (.loadMW Z Fx.agg76 mF lF)<|.al Fx.zero76 Z λb9=>.sV .head Z Z Fx.size76 lF rF.one Z<|.ns<|.mv Z<|.yw (.loadW Z Fx.agg76 mem1 lE)<|.yw (.loadW Z Fx.agg76 Hm lF)<|.yw (.callV (fi:=[]) (ca:=[]) Z hgf Z (λW s=>hq _ (Al_List_getElem_mem hk) _ cE cF W rE rF s.agr))<|.yw (.not Z)<|.nt<|.cd Z (λh30=>?_) (λh30=>?_)
  ·try simp only [dt] at h30
   have hne:¬ l=m:=λe=>by subst e;rw [eqP_iff.2 rfl] at h30;cases h30
   refine .sr<|.az Z<|.bR<|.tR<|.tR<|.bR<|.tR<|?_
   refine y9 Z Z λW s=>⟨retB ?_,s.ext⟩
   first
    | (rw [eqP_iff];exact ⟨λh=>(by cases h),λh=>absurd h hne⟩)
    | (rw [eqP_iff];exact ⟨λ_=>heq,λ_=>rfl⟩)
  try simp only [df] at h30
  have heq:l[k]=m[k]:=eqP_iff.1 (by simpa using h30);exact .sk<|.bN<|.tN<|.rg<|.yw (.add Z Z w7)<|.mv Z<|.nt<|.ag (k+1) ⟨Z,Jt⟩ ⟨Z,Z,Z,Z,Jt⟩ (λ_ s=>s.pick [] [] Z Z) ⟨by omega,take_eq_succ hk hkm hal heq⟩ (by omega)
 have heq:l=m:=by
  have e:k=l.length:=by omega
  have e2:k=m.length:=by omega
  have h1:=hal;rw [e,Al_List_take_length,hlen,Al_List_take_length] at h1;exact h1
 refine .ex<|.eb<|.sr<|.az Z<|?_
 refine y9 Z Z λW s=>⟨retB ?_,s.ext⟩
 first
  | (rw [eqP_iff];exact ⟨λh=>(by cases h),λh=>absurd h hne⟩)
  | (rw [eqP_iff];exact ⟨λ_=>heq,λ_=>rfl⟩)
theorem equalExpr_any (H:Hp) (a:Ex):∀ b,EqAt 52 (dEx .u8) H a b:=by
 induction a using Ex.ind with | _ op nm n args ih
 intro b ca cb w ha hb hA;obtain ⟨op2,nm2,n2,args2⟩:=b;obtain ⟨p,c,rfl,hs,hnm⟩:=ex_open ha;obtain ⟨p2,c2,rfl,hs2,hnm2⟩:=ex_open hb;refine Sx.enter (H:=H) func52 rfl ntmps52 rfl hA ?_;refine .sr<|.bx Z Z Z λb2=>.bx Z Z Z λb3=>.a Z Z<|.ns<|.fA Z Fx.field76_0<|.lD Z Fx.agg74 mem1 Z<|.fA Z Fx.field76_0<|.lD Z Fx.agg74 Hm Z<|.yw (.eql Z Z)<|.mv Z<|.e2 (λh10=>?_) (λh10=>?_)
 ·have e1:op=op2:=Al_UInt8_toNat_inj.1 (by omega);refine .gy (.fieldAddr Z Fx.field76_1)<|.gy (.load Z Fx.agg9 mem1 Z)<|.gy (.fieldAddr Z Fx.field76_1)<|.gy (.load Z Fx.agg9 Hm Z)<|.gy (.eqS Z Z)<|.yw (.pickT Z Z)<|.mv Z<|.e2 (λh17=>?_) (λh17=>?_)
  ·have e2:nm=nm2:=h17;refine .gy (.fieldAddr Z Fx.field76_2)<|.gy (.load Z Fx.agg2 mem1 Z)<|.gy (.fieldAddr Z Fx.field76_2)<|.gy (.load Z Fx.agg2 Hm Z)<|.gy (.eql Z Z)<|.yw (.pickT Z Z)<|.mv Z<|.e2 (λh24=>?_) (λh24=>?_)
   ·have e3:n=n2:=Al_Int64_toInt_inj.1 h24;refine .gy (.fieldAddr Z Fx.field76_3)<|.gy (.load Z Fx.agg32 mem1 Z)<|.gy (.fieldAddr Z Fx.field76_3)<|.gy (.load Z Fx.agg32 Hm Z)<|.gy (.call Fx.call51 Z (λW s=>eqFuncE H 52 Fx.call52 args args2 ih _ _ hs hs2 W s.agr))<|.yw (.pickT Z Z)<|.az Z<|?_
    refine y9 Z Z λW s=>⟨retB ?_,s.ext⟩
    first
     | (rw [eqP_iff,eqP_iff,Ex.mk.injEq];exact ⟨λd=>⟨e1,e2,e3,d⟩,λh=>h.2.2.2⟩)
     | (rw [eqP_iff,Ex.mk.injEq];exact ⟨λh=>(by cases h),λh=>absurd h.1 e1⟩)
     | (rw [eqP_iff,Ex.mk.injEq];exact ⟨λh=>(by cases h),λh=>absurd h.2.1 e2⟩)
     | (rw [eqP_iff,Ex.mk.injEq];exact ⟨λh=>(by cases h),λh=>absurd h.2.2.1 e3⟩)
   have e3:¬ n=n2:=λe=>h24 (by rw [e]);refine .gG<|.gG<|.gG<|.gG<|.gG<|.yw (.pickF Z Z)<|.az Z<|?_
   refine y9 Z Z λW s=>⟨retB ?_,s.ext⟩
   first
    | (rw [eqP_iff,eqP_iff,Ex.mk.injEq];exact ⟨λd=>⟨e1,e2,e3,d⟩,λh=>h.2.2.2⟩)
    | (rw [eqP_iff,Ex.mk.injEq];exact ⟨λh=>(by cases h),λh=>absurd h.1 e1⟩)
    | (rw [eqP_iff,Ex.mk.injEq];exact ⟨λh=>(by cases h),λh=>absurd h.2.1 e2⟩)
    | (rw [eqP_iff,Ex.mk.injEq];exact ⟨λh=>(by cases h),λh=>absurd h.2.2.1 e3⟩)
  have e2:¬ nm=nm2:=h17;refine .gG<|.gG<|.gG<|.gG<|.gG<|.yw (.pickF Z Z)<|.mv Z<|.gG<|.gG<|.gG<|.gG<|.gG<|.yw (.pickF Z Z)<|.az Z<|?_
  refine y9 Z Z λW s=>⟨retB ?_,s.ext⟩
  first
   | (rw [eqP_iff,eqP_iff,Ex.mk.injEq];exact ⟨λd=>⟨e1,e2,e3,d⟩,λh=>h.2.2.2⟩)
   | (rw [eqP_iff,Ex.mk.injEq];exact ⟨λh=>(by cases h),λh=>absurd h.1 e1⟩)
   | (rw [eqP_iff,Ex.mk.injEq];exact ⟨λh=>(by cases h),λh=>absurd h.2.1 e2⟩)
   | (rw [eqP_iff,Ex.mk.injEq];exact ⟨λh=>(by cases h),λh=>absurd h.2.2.1 e3⟩)
 have e1:¬ op=op2:=λe=>h10 (by rw [e]);refine .gG<|.gG<|.gG<|.gG<|.gG<|.yw (.pickF Z Z)<|.mv Z<|.gG<|.gG<|.gG<|.gG<|.gG<|.yw (.pickF Z Z)<|.mv Z<|.gG<|.gG<|.gG<|.gG<|.gG<|.yw (.pickF Z Z)<|.az Z<|?_
 refine y9 Z Z λW s=>⟨retB ?_,s.ext⟩
 first
  | (rw [eqP_iff,eqP_iff,Ex.mk.injEq];exact ⟨λd=>⟨e1,e2,e3,d⟩,λh=>h.2.2.2⟩)
  | (rw [eqP_iff,Ex.mk.injEq];exact ⟨λh=>(by cases h),λh=>absurd h.1 e1⟩)
  | (rw [eqP_iff,Ex.mk.injEq];exact ⟨λh=>(by cases h),λh=>absurd h.2.1 e2⟩)
  | (rw [eqP_iff,Ex.mk.injEq];exact ⟨λh=>(by cases h),λh=>absurd h.2.2.1 e3⟩)
theorem Fx.call96:callN prg 96=true:=by kernel_rfl
theorem Fx.call147:callN prg 147=true:=by kernel_rfl
theorem Fx.call149:callN prg 149=true:=by kernel_rfl
theorem Fx.bld108_0_1_2 (x0:Int) (x1:ByteArray) (x2:Int):buildN prg 108 [(0,.int .u8 x0),(1,.string x1),(2,.int .i64 x2)]=some [.int .u8 x0,.string x1,.int .i64 x2]:=by kernel_rfl
theorem Fx.agg94:aggN prg 94=some none:=by kernel_rfl
theorem Fx.call15:callN prg 15=true:=by kernel_rfl
theorem Fx.call54:callN prg 54=true:=by kernel_rfl
theorem Fx.call55:callN prg 55=true:=by kernel_rfl
theorem Fx.call56:callN prg 56=true:=by kernel_rfl
theorem Fx.call95:callN prg 95=true:=by kernel_rfl
theorem Fx.row99:rowN prg 99=some (108,3,32):=by kernel_rfl
theorem Fx.size94:sizeN prg 94=some 1:=by kernel_rfl
theorem Fx.size99:sizeN prg 99=some 1:=by kernel_rfl
theorem Fx.zero94:zeroN prg 94=some [Go.Value.pointer none]:=by kernel_rfl
theorem Fx.bld102_2 (x2p:Option Addr) (x2n x2c:Nat):buildN prg 102 [(2,.slice x2p x2n x2c)]=some [.slice none 0 0,.int .i64 0,.slice x2p x2n x2c,.slice none 0 0,.bool false,.bool false,.bool false,.int .i64 0,.int .i64 0]:=by kernel_rfl
theorem Fx.bld108_2 (x2:Int):buildN prg 108 [(2,.int .i64 x2)]=some [.int .u8 0,.string ⟨#[]⟩,.int .i64 x2]:=by kernel_rfl
theorem Fx.bld35  : buildN prg 35 []=some [.int .u8 0,.string ⟨#[]⟩,.string ⟨#[]⟩,.int .i64 0,.int .i64 0,.slice none 0 0,.slice none 0 0]:=by kernel_rfl
theorem Fx.bsl99_1 (x00 x01 x02:Value):bslN prg 99 1 [(0,.agg [x00,x01,x02].toArray)]=some (108,[x00,x01,x02]):=by kernel_rfl
theorem Fx.call89:callN prg 89=true:=by kernel_rfl
theorem Fx.call138:callN prg 138=true:=by kernel_rfl
theorem Fx.call139:callN prg 139=true:=by kernel_rfl
theorem Fx.call140:callN prg 140=true:=by kernel_rfl
theorem Fx.call48:callN prg 48=true:=by kernel_rfl
theorem Fx.call144:callN prg 144=true:=by kernel_rfl
theorem Fx.arr163:arrN prg 163=some (19,1):=by kernel_rfl
theorem Fx.call90:callN prg 90=true:=by kernel_rfl
theorem Fx.call91:callN prg 91=true:=by kernel_rfl
theorem Fx.call92:callN prg 92=true:=by kernel_rfl
theorem Fx.call93:callN prg 93=true:=by kernel_rfl
theorem Fx.call19:callN prg 19=true:=by kernel_rfl
theorem Fx.call26:callN prg 26=true:=by kernel_rfl
theorem Fx.call13:callN prg 13=true:=by kernel_rfl
theorem snocF_eq {fs gs:List Fm} {op0 op1:UInt8} {nm0 nm1 fd0 fd1:Str} {a0 a1 b0 b1:Int64} {ex0 ex1:List Ex} {args0 args1:List Fm} :fs++[Fm.mk op0 nm0 fd0 a0 b0 ex0 args0]=gs++[Fm.mk op1 nm1 fd1 a1 b1 ex1 args1]↔fs=gs/\op0=op1/\nm0=nm1/\fd0=fd1/\a0=a1/\b0=b1/\ex0=ex1/\args0=args1:=by
 rw [<-List.concat_eq_append,<-List.concat_eq_append]
 constructor
 ·intro h;have h1:=List.init_eq_of_concat_eq h;have h2:=List.last_eq_of_concat_eq h;injection h2 with i1 i2 i3 i4 i5 i6 i7
  exact ⟨h1,i1,i2,i3,i4,i5,i6,i7⟩
 ·rintro ⟨rfl,rfl,rfl,rfl,rfl,rfl,rfl,rfl⟩;rfl
theorem snocF_app {fs gs:List Fm} {op0 op1:UInt8} {nm0 nm1 fd0 fd1:Str} {a0 a1 b0 b1:Int64} {ex0 ex1:List Ex} {args0 args1:List Fm} (e1:op0=op1) (e2:nm0=nm1) (e3:fd0=fd1) (e4:a0=a1) (e5:b0=b1) (e6:args0.length=args1.length) (e7:ex0=ex1) (hl:fs.length+1=gs.length+1):fs++[Fm.mk op0 nm0 fd0 a0 b0 ex0 args0]=gs++[Fm.mk op1 nm1 fd1 a1 b1 ex1 args1]↔fs++args0=gs++args1:=by
 rw [snocF_eq]
 constructor
 ·rintro ⟨rfl,_,_,_,_,_,_,rfl⟩;rfl
 ·intro h;obtain ⟨h1,h2⟩:=List.append_inj h (by omega);exact ⟨h1,e1,e2,e3,e4,e5,e7,h2⟩
set_option maxHeartbeats 2000000 in
theorem fequal_any (H:Hp) (f g:Fm) (N:Nat) (hb:blF N f=true) (hN:N * f.count<=100000000000) (hN1:N<=100000000000) (cs ds:List Value) (w:World) (h:Rep H (dFm .u8 f) cs) (k:Rep H (dFm .u8 g) ds) (hA:Agr H w):Calls prg 24 #[.agg cs.toArray,.agg ds.toArray] w λr w'=>r=.returned (.bool (eqP (f=g)))/\Ext w w':=by
 obtain ⟨op,nm,fd,a,b,ex,args⟩:=f;obtain ⟨opb,nmb,fdb,ab,bb,exb,argsb⟩:=g;obtain ⟨p1,c1,p2,c2,rfl,_,_,_,_⟩:=fm_open h;obtain ⟨p3,c3,p4,c4,rfl,_,_,_,_⟩:=fm_open k;refine Sx.enter (H:=H) func24 rfl ntmps24 rfl hA ?_;refine .sr<|.bx Z Z Z λb2=>.bx Z Z Z λb3=>.aq Z<|.sq<|.ft (p:=.light _ _ (.light _ _ (.alt _ _ _ (.light _ _ (.alt _ _ _ (.done) (.no))) (.alt _ _ _ (.alt _ _ _ (.light _ _ (.done)) (.no)) (.no))))) 5 (.light 0 (.light 2 (.alt 1 0 (.light 4 (.alt 3 0 (.done) (.no))) (.alt 3 0 (.alt 1 0 (.light 4 (.done)) (.no)) (.no))))) (by kernel_rfl) (by kernel_rfl) Z<|.yw (.loadW Z Fx.agg35 mem1 Z)<|.yw (.loadW Z Fx.agg35 Hm Z)<|.h ?_ (.h ?_ .nn)
 ·
  refine .blR (z:=7) Z (Fx.bsl33_1 _ _ _ _ _ _ _) Z Z (by simp [maxLen]) λb11=>.a Z Z<|.h1<|.blR (z:=7) Z (Fx.bsl33_1 _ _ _ _ _ _ _) Z Z (by simp [maxLen]) λb13=>.fn (tl:=[_]) Z<|.aq Z<|.sq<|.sr<|.aq Z<|.bk<|.pm [1,0,2,3] [_,_,_,_] Z Z<|.lp (X:=Nat × List Fm × List Fm × Value × Value × List Value × List Value) [] trivial [_,_] (λz=>[(5,z.2.2.2.1),(6,z.2.2.2.2.1),(7,.int .i64 ((z.2.1.length:Int) - 1))]) (λz=>H) (λz=>[.row 35 7 z.2.2.2.1 z.2.1.length z.2.2.2.2.2.1,.row 35 7 z.2.2.2.2.1 z.2.2.1.length z.2.2.2.2.2.2]) (λz=>RepZ H 7 (z.2.1.map (dFm .u8)) z.2.2.2.2.2.1/\RepZ H 7 (z.2.2.1.map (dFm .u8)) z.2.2.2.2.2.2/\z.2.1.length=z.2.2.1.length/\z.1+Fm.counts z.2.1<=Fm.count (.mk op nm fd a b ex args)/\(∀ g∈z.2.1,blF N g=true)/\z.2.1.length<=1+N * z.1/\(Fm.mk op nm fd a b ex args=Fm.mk opb nmb fdb ab bb exb argsb↔z.2.1=z.2.2.1)) (λz=>Fm.counts z.2.1) (0,[Fm.mk op nm fd a b ex args],[Fm.mk opb nmb fdb ab bb exb argsb],.slice (some ⟨b11,0,none⟩) 1 1,.slice (some ⟨b13,0,none⟩) 1 1,[.int .u8 op.toNat,strV nm,strV fd,.int .i64 a.toInt,.int .i64 b.toInt,.slice p1 ex.length c1,.slice p2 args.length c2],[.int .u8 opb.toNat,strV nmb,strV fdb,.int .i64 ab.toInt,.int .i64 bb.toInt,.slice p3 exb.length c3,.slice p4 argsb.length c4]) (λ_ s=>s) ⟨Z,Z,Z,Jt⟩ ⟨.single h Z,.single k Z,Z,by rw [Fm.counts,Fm.counts];omega,λg hg=>by rw [Al_List_mem_singleton.1 hg];exact hb,by simp,by simp⟩ λz hC=>?_
  obtain ⟨n,fs,gs,rf,rg,xf,xg⟩:=z;obtain ⟨zf,zg,hle,hcnt,hbf,hlen,hiff⟩:=hC;dsimp only at zf zg hle hcnt hbf hlen hiff|-;have hNn:N * n<=N * Fm.count (.mk op nm fd a b ex args):=Al_Nat_mul_le_mul_left N (by omega);refine At.ra (size:=7) (r:=rf) (e:=35) Hm λpf cf e=>?_;subst e;refine At.ra (size:=7) (r:=rg) (e:=35) mem1 λpg cg e=>?_;subst e;refine .sq<|.sm Z<|.yw (.geq Z Z)<|.nt<|.cd Z (λh15=>?_) (λh15=>?_)
  ·try simp only [dt] at h15
   have hpos:0<fs.length:=by omega
   obtain ⟨fs0,f0,rfl⟩:∃ fs0 f0,fs=fs0++[f0]:=by
    rcases List.eq_nil_or_concat fs with h | ⟨t,x,h⟩
    ·subst h;simp at hpos hle
    ·exact ⟨t,x,by rw [h,List.concat_eq_append]⟩
   have hl0:(fs0++[f0]).length=fs0.length+1:=by rw [Al_List_length_append];rfl
   refine Sx.rowCase (size:=7) (r:=.slice pf (fs0++[f0]).length cf) (e:=35) Hm (by rw [hl0];exact Nat.succ_pos _) λwf c e hgc=>?_;injection e with e3 _ e4
   subst e3 e4;obtain ⟨cs0,r0,hc0,hx0⟩:=RepZ.at zf (i:=fs0.length) (d:=dFm .u8 f0) (by rw [Al_List_map_append,List.getElem?_append_right (by rw [Al_List_length_map];exact Al_Nat_le_refl _),Al_List_length_map,Al_Nat_sub_self];rfl)
   have hz0:RepZ H 7 (fs0.map (dFm .u8)) (xf.take (fs0.length * 7)):=by
    have h:=RepZ.take fs0.length zf;rw [Al_List_map_append,List.take_left' (by rw [Al_List_length_map])] at h;exact h
   obtain ⟨gs0,g0,rfl⟩:∃ fs0 f0,gs=fs0++[f0]:=by
    rcases List.eq_nil_or_concat gs with h | ⟨t,x,h⟩
    ·subst h;simp at hpos hle
    ·exact ⟨t,x,by rw [h,List.concat_eq_append]⟩
   have hl1:(gs0++[g0]).length=gs0.length+1:=by rw [Al_List_length_append];rfl
   refine Sx.rowCase (size:=7) (r:=.slice pg (gs0++[g0]).length cg) (e:=35) mem1 (by rw [hl1];exact Nat.succ_pos _) λwg c e hgd=>?_;injection e with e3 _ e4
   subst e3 e4;obtain ⟨cs1,r1,hc1,hx1⟩:=RepZ.at zg (i:=gs0.length) (d:=dFm .u8 g0) (by rw [Al_List_map_append,List.getElem?_append_right (by rw [Al_List_length_map];exact Al_Nat_le_refl _),Al_List_length_map,Al_Nat_sub_self];rfl)
   have hz1:RepZ H 7 (gs0.map (dFm .u8)) (xg.take (gs0.length * 7)):=by
    have h:=RepZ.take gs0.length zg;rw [Al_List_map_append,List.take_left' (by rw [Al_List_length_map])] at h;exact h
   obtain ⟨op0,nm0,fd0,a0,b0,ex0,args0⟩:=f0;obtain ⟨op1,nm1,fd1,a1,b1,ex1,args1⟩:=g0;obtain ⟨q1,d1,q2,d2,rfl,hs0,hs3,_,_⟩:=fm_open r0;obtain ⟨q5,d5,q6,d6,rfl,hs5,hs6,_,_⟩:=fm_open r1;have hb0:=(blF_mk.1 (hbf _ (Al_List_mem_append.2 (.inr (Al_List_mem_singleton.2 rfl)))));rw [fm_counts_app,Fm.counts,Fm.counts,fm_count] at hcnt;rw [hl0,hl1] at hle;rw [hl0] at hlen;have hNs:N * (n+1)=N * n+N:=Nat.mul_succ N n;have hcp0:=hs3.cap;have hcp1:=hs6.cap;refine .sk<|.tN<|.sq<|.bk<|.sq<|.ft (p:=.light _ _ (.light _ _ (.light _ _ (.light _ _ (.light _ _ (.light _ _ (.light _ _ (.light _ _ (.alt _ _ _ (.alt _ _ _ (.alt _ _ _ (.done) (.no)) (.no)) (.alt _ _ _ (.alt _ _ _ (.alt _ _ _ (.done) (.no)) (.no)) (.no))))))))))) 11 (.light 0 (.light 1 (.light 2 (.light 3 (.light 4 (.light 5 (.light 6 (.light 7 (.alt 8 0 (.alt 9 0 (.alt 10 2 (.done) (.no)) (.no)) (.alt 9 0 (.alt 8 0 (.alt 10 2 (.done) (.no)) (.no)) (.no))))))))))) (by kernel_rfl) (by kernel_rfl) Z<|.mv Z<|.mv Z<|.yw (.indexSl Fx.sl33 Z Z (i:=fs0.length) (by rw [hl0];omega) (by rw [hl0];omega) (q:=fs0.length * 7) (by omega))<|.yw (.loadR (vs:=cFm .u8 op0 nm0 fd0 a0 b0 (.slice q1 ex0.length d1) (.slice q2 args0.length d2)) Z Fx.agg35 Hm Z hx0)<|.mv Z<|.mv Z<|.yw (.indexSl Fx.sl33 Z Z (i:=gs0.length) (by rw [hl0];omega) (by rw [hl1];omega) (q:=gs0.length * 7) (by omega))<|.yw (.loadR (vs:=cFm .u8 op1 nm1 fd1 a1 b1 (.slice q5 ex1.length d5) (.slice q6 args1.length d6)) Z Fx.agg35 mem1 Z hx1)<|.h ?_ (.h ?_ .nn)
   ·
    refine .al Fx.zero35 Z λb8=>.h1<|.al Fx.zero35 Z λb9=>.h1<|.sW upd1 Z Z Fx.size35 (by simp [Value.oneCell',strV]) Z ((.yv (.loadR (vs:=cFm .u8 op1 nm1 fd1 a1 b1 (.slice q5 ex1.length d5) (.slice q6 args1.length d6)) Z Fx.agg35 mem3 Z hx1)<|.yv (.indexSl Fx.sl33 Z Z (i:=gs0.length) (by rw [hl0];omega) (by rw [hl1];omega) (q:=gs0.length * 7) (by omega))<|.yv (.move Z)<|.yv (.move Z)<|.d4<|.nl))<|.fn (tl:=[_]) Z<|.sX .head Z Z Fx.size35 Z<|.nt<|.sq<|.sr<|.fA Z Fx.field35_0<|.lD Z Fx.agg31 mem1 Z<|.fA Z Fx.field35_0<|.lD Z Fx.agg31 Hm Z<|.yw (.neq Z Z)<|.mv Z<|.b2 (λh32=>?_) (λh32=>?_)
    ·try simp only [dt] at h32
     have e1:=(λe=>h32 (by rw [e]):¬ op0=op1);refine .gG<|.gG<|.gG<|.gG<|.gG<|.yw (.pickT Z Z)<|.mv Z<|.gG<|.gG<|.gG<|.gG<|.gG<|.yw (.pickT Z Z)<|.mv Z<|.gG<|.gG<|.gG<|.gG<|.gG<|.yw (.pickT Z Z)<|.mv Z<|.gG<|.gG<|.gG<|.gG<|.gG<|.yw (.pickT Z Z)<|.mv Z<|.gG<|.gG<|.gG<|.gG<|.gG<|.gG<|.gG<|.yw (.pickT Z Z)<|.mv Z<|.gG<|.gG<|.gG<|.gG<|.gG<|.gG<|.yw (.pickT Z Z)<|.nt<|.cT Z<|.sr<|.az Z<|.tR<|.bR<|.tR<|.tR<|.bR<|.tR<|?_
     refine y9 Z Z λW s=>⟨retB ?_,s.ext⟩
     first
      | (rw [eqP_iff];exact ⟨λ_=>hall,λ_=>rfl⟩)
      | (rw [eqP_iff];exact ⟨λh=>(by cases h),λh=>absurd (hiff.1 h) (by rw [snocF_eq];exact λh=>e1 (h.2.1))⟩)
      | (rw [eqP_iff];exact ⟨λh=>(by cases h),λh=>absurd (hiff.1 h) (by rw [snocF_eq];exact λh=>e2 (h.2.2.1))⟩)
      | (rw [eqP_iff];exact ⟨λh=>(by cases h),λh=>absurd (hiff.1 h) (by rw [snocF_eq];exact λh=>e3 (h.2.2.2.1))⟩)
      | (rw [eqP_iff];exact ⟨λh=>(by cases h),λh=>absurd (hiff.1 h) (by rw [snocF_eq];exact λh=>e4 (h.2.2.2.2.1))⟩)
      | (rw [eqP_iff];exact ⟨λh=>(by cases h),λh=>absurd (hiff.1 h) (by rw [snocF_eq];exact λh=>e5 (h.2.2.2.2.2.1))⟩)
      | (rw [eqP_iff];exact ⟨λh=>(by cases h),λh=>absurd (hiff.1 h) (by rw [snocF_eq];exact λh=>e6 (by rw [h.2.2.2.2.2.2.2]))⟩)
      | (rw [eqP_iff];exact ⟨λh=>(by cases h),λh=>absurd (hiff.1 h) (by rw [snocF_eq];exact λh=>e7 h.2.2.2.2.2.2.1)⟩)
    try simp only [df] at h32
    have e1:=Al_UInt8_toNat_inj.1 (by omega:op0.toNat=op1.toNat);refine .gy (.fieldAddr Z Fx.field35_1)<|.gy (.load Z Fx.agg9 mem1 Z)<|.gy (.fieldAddr Z Fx.field35_1)<|.gy (.load Z Fx.agg9 Hm Z)<|.gy (.neS Z Z)<|.yw (.pickF Z Z)<|.mv Z<|.b2 (λh39=>?_) (λh39=>?_)
    ·try simp only [dt] at h39
     have e2:=(id h39:¬ nm0=nm1);refine .gG<|.gG<|.gG<|.gG<|.gG<|.yw (.pickT Z Z)<|.mv Z<|.gG<|.gG<|.gG<|.gG<|.gG<|.yw (.pickT Z Z)<|.mv Z<|.gG<|.gG<|.gG<|.gG<|.gG<|.yw (.pickT Z Z)<|.mv Z<|.gG<|.gG<|.gG<|.gG<|.gG<|.gG<|.gG<|.yw (.pickT Z Z)<|.mv Z<|.gG<|.gG<|.gG<|.gG<|.gG<|.gG<|.yw (.pickT Z Z)<|.nt<|.cT Z<|.sr<|.az Z<|.tR<|.bR<|.tR<|.tR<|.bR<|.tR<|?_
     refine y9 Z Z λW s=>⟨retB ?_,s.ext⟩
     first
      | (rw [eqP_iff];exact ⟨λ_=>hall,λ_=>rfl⟩)
      | (rw [eqP_iff];exact ⟨λh=>(by cases h),λh=>absurd (hiff.1 h) (by rw [snocF_eq];exact λh=>e1 (h.2.1))⟩)
      | (rw [eqP_iff];exact ⟨λh=>(by cases h),λh=>absurd (hiff.1 h) (by rw [snocF_eq];exact λh=>e2 (h.2.2.1))⟩)
      | (rw [eqP_iff];exact ⟨λh=>(by cases h),λh=>absurd (hiff.1 h) (by rw [snocF_eq];exact λh=>e3 (h.2.2.2.1))⟩)
      | (rw [eqP_iff];exact ⟨λh=>(by cases h),λh=>absurd (hiff.1 h) (by rw [snocF_eq];exact λh=>e4 (h.2.2.2.2.1))⟩)
      | (rw [eqP_iff];exact ⟨λh=>(by cases h),λh=>absurd (hiff.1 h) (by rw [snocF_eq];exact λh=>e5 (h.2.2.2.2.2.1))⟩)
      | (rw [eqP_iff];exact ⟨λh=>(by cases h),λh=>absurd (hiff.1 h) (by rw [snocF_eq];exact λh=>e6 (by rw [h.2.2.2.2.2.2.2]))⟩)
      | (rw [eqP_iff];exact ⟨λh=>(by cases h),λh=>absurd (hiff.1 h) (by rw [snocF_eq];exact λh=>e7 h.2.2.2.2.2.2.1)⟩)
    try simp only [df] at h39
    have e2:=(Al_Classical_not_not.1 h39:nm0=nm1);refine .gy (.fieldAddr Z Fx.field35_2)<|.gy (.load Z Fx.agg9 mem1 Z)<|.gy (.fieldAddr Z Fx.field35_2)<|.gy (.load Z Fx.agg9 Hm Z)<|.gy (.neS Z Z)<|.yw (.pickF Z Z)<|.mv Z<|.b2 (λh46=>?_) (λh46=>?_)
    ·try simp only [dt] at h46
     have e3:=(id h46:¬ fd0=fd1);refine .gG<|.gG<|.gG<|.gG<|.gG<|.yw (.pickT Z Z)<|.mv Z<|.gG<|.gG<|.gG<|.gG<|.gG<|.yw (.pickT Z Z)<|.mv Z<|.gG<|.gG<|.gG<|.gG<|.gG<|.gG<|.gG<|.yw (.pickT Z Z)<|.mv Z<|.gG<|.gG<|.gG<|.gG<|.gG<|.gG<|.yw (.pickT Z Z)<|.nt<|.cT Z<|.sr<|.az Z<|.tR<|.bR<|.tR<|.tR<|.bR<|.tR<|?_
     refine y9 Z Z λW s=>⟨retB ?_,s.ext⟩
     first
      | (rw [eqP_iff];exact ⟨λ_=>hall,λ_=>rfl⟩)
      | (rw [eqP_iff];exact ⟨λh=>(by cases h),λh=>absurd (hiff.1 h) (by rw [snocF_eq];exact λh=>e1 (h.2.1))⟩)
      | (rw [eqP_iff];exact ⟨λh=>(by cases h),λh=>absurd (hiff.1 h) (by rw [snocF_eq];exact λh=>e2 (h.2.2.1))⟩)
      | (rw [eqP_iff];exact ⟨λh=>(by cases h),λh=>absurd (hiff.1 h) (by rw [snocF_eq];exact λh=>e3 (h.2.2.2.1))⟩)
      | (rw [eqP_iff];exact ⟨λh=>(by cases h),λh=>absurd (hiff.1 h) (by rw [snocF_eq];exact λh=>e4 (h.2.2.2.2.1))⟩)
      | (rw [eqP_iff];exact ⟨λh=>(by cases h),λh=>absurd (hiff.1 h) (by rw [snocF_eq];exact λh=>e5 (h.2.2.2.2.2.1))⟩)
      | (rw [eqP_iff];exact ⟨λh=>(by cases h),λh=>absurd (hiff.1 h) (by rw [snocF_eq];exact λh=>e6 (by rw [h.2.2.2.2.2.2.2]))⟩)
      | (rw [eqP_iff];exact ⟨λh=>(by cases h),λh=>absurd (hiff.1 h) (by rw [snocF_eq];exact λh=>e7 h.2.2.2.2.2.2.1)⟩)
    try simp only [df] at h46
    have e3:=(Al_Classical_not_not.1 h46:fd0=fd1);refine .gy (.fieldAddr Z Fx.field35_3)<|.gy (.load Z Fx.agg3 mem1 Z)<|.gy (.fieldAddr Z Fx.field35_3)<|.gy (.load Z Fx.agg3 Hm Z)<|.gy (.neq Z Z)<|.yw (.pickF Z Z)<|.mv Z<|.b2 (λh53=>?_) (λh53=>?_)
    ·try simp only [dt] at h53
     have e4:=(λe=>h53 (by rw [e]):¬ a0=a1);refine .gG<|.gG<|.gG<|.gG<|.gG<|.yw (.pickT Z Z)<|.mv Z<|.gG<|.gG<|.gG<|.gG<|.gG<|.gG<|.gG<|.yw (.pickT Z Z)<|.mv Z<|.gG<|.gG<|.gG<|.gG<|.gG<|.gG<|.yw (.pickT Z Z)<|.nt<|.cT Z<|.sr<|.az Z<|.tR<|.bR<|.tR<|.tR<|.bR<|.tR<|?_
     refine y9 Z Z λW s=>⟨retB ?_,s.ext⟩
     first
      | (rw [eqP_iff];exact ⟨λ_=>hall,λ_=>rfl⟩)
      | (rw [eqP_iff];exact ⟨λh=>(by cases h),λh=>absurd (hiff.1 h) (by rw [snocF_eq];exact λh=>e1 (h.2.1))⟩)
      | (rw [eqP_iff];exact ⟨λh=>(by cases h),λh=>absurd (hiff.1 h) (by rw [snocF_eq];exact λh=>e2 (h.2.2.1))⟩)
      | (rw [eqP_iff];exact ⟨λh=>(by cases h),λh=>absurd (hiff.1 h) (by rw [snocF_eq];exact λh=>e3 (h.2.2.2.1))⟩)
      | (rw [eqP_iff];exact ⟨λh=>(by cases h),λh=>absurd (hiff.1 h) (by rw [snocF_eq];exact λh=>e4 (h.2.2.2.2.1))⟩)
      | (rw [eqP_iff];exact ⟨λh=>(by cases h),λh=>absurd (hiff.1 h) (by rw [snocF_eq];exact λh=>e5 (h.2.2.2.2.2.1))⟩)
      | (rw [eqP_iff];exact ⟨λh=>(by cases h),λh=>absurd (hiff.1 h) (by rw [snocF_eq];exact λh=>e6 (by rw [h.2.2.2.2.2.2.2]))⟩)
      | (rw [eqP_iff];exact ⟨λh=>(by cases h),λh=>absurd (hiff.1 h) (by rw [snocF_eq];exact λh=>e7 h.2.2.2.2.2.2.1)⟩)
    try simp only [df] at h53
    have e4:=Al_Int64_toInt_inj.1 (by omega:a0.toInt=a1.toInt);refine .gy (.fieldAddr Z Fx.field35_4)<|.gy (.load Z Fx.agg3 mem1 Z)<|.gy (.fieldAddr Z Fx.field35_4)<|.gy (.load Z Fx.agg3 Hm Z)<|.gy (.neq Z Z)<|.yw (.pickF Z Z)<|.mv Z<|.b2 (λh60=>?_) (λh60=>?_)
    ·try simp only [dt] at h60
     have e5:=(λe=>h60 (by rw [e]):¬ b0=b1);refine .gG<|.gG<|.gG<|.gG<|.gG<|.gG<|.gG<|.yw (.pickT Z Z)<|.mv Z<|.gG<|.gG<|.gG<|.gG<|.gG<|.gG<|.yw (.pickT Z Z)<|.nt<|.cT Z<|.sr<|.az Z<|.tR<|.bR<|.tR<|.tR<|.bR<|.tR<|?_
     refine y9 Z Z λW s=>⟨retB ?_,s.ext⟩
     first
      | (rw [eqP_iff];exact ⟨λ_=>hall,λ_=>rfl⟩)
      | (rw [eqP_iff];exact ⟨λh=>(by cases h),λh=>absurd (hiff.1 h) (by rw [snocF_eq];exact λh=>e1 (h.2.1))⟩)
      | (rw [eqP_iff];exact ⟨λh=>(by cases h),λh=>absurd (hiff.1 h) (by rw [snocF_eq];exact λh=>e2 (h.2.2.1))⟩)
      | (rw [eqP_iff];exact ⟨λh=>(by cases h),λh=>absurd (hiff.1 h) (by rw [snocF_eq];exact λh=>e3 (h.2.2.2.1))⟩)
      | (rw [eqP_iff];exact ⟨λh=>(by cases h),λh=>absurd (hiff.1 h) (by rw [snocF_eq];exact λh=>e4 (h.2.2.2.2.1))⟩)
      | (rw [eqP_iff];exact ⟨λh=>(by cases h),λh=>absurd (hiff.1 h) (by rw [snocF_eq];exact λh=>e5 (h.2.2.2.2.2.1))⟩)
      | (rw [eqP_iff];exact ⟨λh=>(by cases h),λh=>absurd (hiff.1 h) (by rw [snocF_eq];exact λh=>e6 (by rw [h.2.2.2.2.2.2.2]))⟩)
      | (rw [eqP_iff];exact ⟨λh=>(by cases h),λh=>absurd (hiff.1 h) (by rw [snocF_eq];exact λh=>e7 h.2.2.2.2.2.2.1)⟩)
    try simp only [df] at h60
    have e5:=Al_Int64_toInt_inj.1 (by omega:b0.toInt=b1.toInt);refine .gy (.fieldAddr Z Fx.field35_6)<|.gy (.load Z Fx.agg33 mem1 Z)<|.gy (.lenSl Fx.sl33 Z)<|.gy (.fieldAddr Z Fx.field35_6)<|.gy (.load Z Fx.agg33 Hm Z)<|.gy (.lenSl Fx.sl33 Z)<|.gy (.neq Z Z)<|.yw (.pickF Z Z)<|.mv Z<|.b2 (λh69=>?_) (λh69=>?_)
    ·try simp only [dt] at h69
     have e6:=(λe=>h69 (by rw [e]):¬ args0.length=args1.length);refine .gG<|.gG<|.gG<|.gG<|.gG<|.gG<|.yw (.pickT Z Z)<|.nt<|.cT Z<|.sr<|.az Z<|.tR<|.bR<|.tR<|.tR<|.bR<|.tR<|?_
     refine y9 Z Z λW s=>⟨retB ?_,s.ext⟩
     first
      | (rw [eqP_iff];exact ⟨λ_=>hall,λ_=>rfl⟩)
      | (rw [eqP_iff];exact ⟨λh=>(by cases h),λh=>absurd (hiff.1 h) (by rw [snocF_eq];exact λh=>e1 (h.2.1))⟩)
      | (rw [eqP_iff];exact ⟨λh=>(by cases h),λh=>absurd (hiff.1 h) (by rw [snocF_eq];exact λh=>e2 (h.2.2.1))⟩)
      | (rw [eqP_iff];exact ⟨λh=>(by cases h),λh=>absurd (hiff.1 h) (by rw [snocF_eq];exact λh=>e3 (h.2.2.2.1))⟩)
      | (rw [eqP_iff];exact ⟨λh=>(by cases h),λh=>absurd (hiff.1 h) (by rw [snocF_eq];exact λh=>e4 (h.2.2.2.2.1))⟩)
      | (rw [eqP_iff];exact ⟨λh=>(by cases h),λh=>absurd (hiff.1 h) (by rw [snocF_eq];exact λh=>e5 (h.2.2.2.2.2.1))⟩)
      | (rw [eqP_iff];exact ⟨λh=>(by cases h),λh=>absurd (hiff.1 h) (by rw [snocF_eq];exact λh=>e6 (by rw [h.2.2.2.2.2.2.2]))⟩)
      | (rw [eqP_iff];exact ⟨λh=>(by cases h),λh=>absurd (hiff.1 h) (by rw [snocF_eq];exact λh=>e7 h.2.2.2.2.2.2.1)⟩)
    try simp only [df] at h69
    have e6:=(by omega:args0.length=args1.length);refine .gy (.fieldAddr Z Fx.field35_5)<|.gy (.load Z Fx.agg32 mem1 Z)<|.gy (.fieldAddr Z Fx.field35_5)<|.gy (.load Z Fx.agg32 Hm Z)<|.gy (.call Fx.call51 Z (λW s=>eqFuncE H 52 Fx.call52 ex0 ex1 (λa _=>equalExpr_any H a) _ _ hs0 hs5 W s.agr))<|.gy (.not Z)<|.yw (.pickF Z Z)<|.nt<|.cd Z (λh76=>?_) (λh76=>?_)
    ·try simp only [dt] at h76
     have e7:=eqP_false.1 (by simpa using h76);refine .sr<|.az Z<|.tR<|.bR<|.tR<|.tR<|.bR<|.tR<|?_
     refine y9 Z Z λW s=>⟨retB ?_,s.ext⟩
     first
      | (rw [eqP_iff];exact ⟨λ_=>hall,λ_=>rfl⟩)
      | (rw [eqP_iff];exact ⟨λh=>(by cases h),λh=>absurd (hiff.1 h) (by rw [snocF_eq];exact λh=>e1 (h.2.1))⟩)
      | (rw [eqP_iff];exact ⟨λh=>(by cases h),λh=>absurd (hiff.1 h) (by rw [snocF_eq];exact λh=>e2 (h.2.2.1))⟩)
      | (rw [eqP_iff];exact ⟨λh=>(by cases h),λh=>absurd (hiff.1 h) (by rw [snocF_eq];exact λh=>e3 (h.2.2.2.1))⟩)
      | (rw [eqP_iff];exact ⟨λh=>(by cases h),λh=>absurd (hiff.1 h) (by rw [snocF_eq];exact λh=>e4 (h.2.2.2.2.1))⟩)
      | (rw [eqP_iff];exact ⟨λh=>(by cases h),λh=>absurd (hiff.1 h) (by rw [snocF_eq];exact λh=>e5 (h.2.2.2.2.2.1))⟩)
      | (rw [eqP_iff];exact ⟨λh=>(by cases h),λh=>absurd (hiff.1 h) (by rw [snocF_eq];exact λh=>e6 (by rw [h.2.2.2.2.2.2.2]))⟩)
      | (rw [eqP_iff];exact ⟨λh=>(by cases h),λh=>absurd (hiff.1 h) (by rw [snocF_eq];exact λh=>e7 h.2.2.2.2.2.2.1)⟩)
    try simp only [df] at h76
    have e7:=eqP_iff.1 (by simpa using h76);refine Sx.At.rcut (size:=7) (m:=fs0.length) (ys:=xf.take (fs0.length * 7)) upd2 (by rw [hl0];exact Nat.le_succ _) rfl ?_;refine Sx.At.rcut (size:=7) (m:=gs0.length) (ys:=xg.take (gs0.length * 7)) upd3 (by rw [hl1];exact Nat.le_succ _) rfl ?_;exact .sk<|.tN<|.fL 12 [(0,0),(1,0),(2,0),(3,0),(4,0),(6,0),(7,0),(8,0),(9,0),(10,0),(5,3),(11,3)]<|.mv Z<|.mv Z<|.yw (.cutHi Fx.sl33 Z Z (h:=fs0.length) (by rw [hl0];omega) (by rw [hl0] at hgc;omega) (λq e=>by cases e;rfl))<|.fA Z Fx.field35_6<|.lD Z Fx.agg33 mem1 Z<|.mv Z<|.mv Z<|.yw (.cutHi Fx.sl33 Z Z (h:=gs0.length) (by rw [hl0];omega) (by rw [hl1] at hgd;omega) (λq e=>by cases e;rfl))<|.fA Z Fx.field35_6<|.lD Z Fx.agg33 Hm Z<|.apD Fx.row33 Z (λ_ _=>upd2) Z hs3 (by simp only [maxLen];omega) (by omega) Z (λ_ _=>(.yv (.load Z Fx.agg33 Hm Z)<|.yv (.fieldAddr Z Fx.field35_6)<|.yv (.cutHi Fx.sl33 Z Z (h:=gs0.length) (by rw [hl0];omega) (by rw [hl1] at hgd;omega) (λq e=>by cases e;rfl))<|.yv (.move Z)<|.yv (.move Z)<|.d3<|.d2<|.nl)) λnews pN cN hzn=>.apD Fx.row33 Z (λ_ _=>upd3) Z hs6 (by simp only [maxLen];omega) (by omega) Z (λ_ _=>(.d4<|.d4<|.d2<|.nl)) λmews pM cM hzm=>.fn (tl:=[_,_]) Z<|.a Z Z<|.a Z Z<|.nl<|.bN<|.tN<|.rg<|.mv Z<|.yw (.lenSl Fx.sl33 Z)<|.yw (.sub Z Z (w6 (by omega)))<|.aq Z<|.ag (x:=(n,fs0++[Fm.mk op0 nm0 fd0 a0 b0 ex0 args0],gs0++[Fm.mk op1 nm1 fd1 a1 b1 ex1 args1],Value.slice (some ⟨wf,0,none⟩) (fs0++[Fm.mk op0 nm0 fd0 a0 b0 ex0 args0]).length cf,Value.slice (some ⟨wg,0,none⟩) (gs0++[Fm.mk op1 nm1 fd1 a1 b1 ex1 args1]).length cg,xf,xg)) (n+1,fs0++args0,gs0++args1,Value.slice pN (fs0.length+args0.length) cN,Value.slice pM (gs0.length+args1.length) cM,xf.take (fs0.length * 7)++news,xg.take (gs0.length * 7)++mews) ⟨Z,Z,by dsimp only;exact congrArg (λm:Nat=>some (Value.int .i64 ((m:Int) - 1))) (Al_List_length_append ).symm,Jt⟩ trivial (λ_ s=>by dsimp only;rw [Al_List_length_append,Al_List_length_append];exact (s.pick [2,3,4,5] _ Z Z)) ⟨by rw [Al_List_map_append];exact hz0.app hzn,by rw [Al_List_map_append];exact hz1.app hzm,by dsimp only;rw [Al_List_length_append,Al_List_length_append];omega,by dsimp only;rw [fm_counts_app];omega,λe he=>by rcases Al_List_mem_append.1 he with h | h;exact hbf e (Al_List_mem_append.2 (.inl h));exact hb0.2 e h,by dsimp only;rw [Al_List_length_append,hNs];omega,by dsimp only;exact hiff.trans (snocF_app e1 e2 e3 e4 e5 e6 e7 hle)⟩ (by dsimp only;rw [fm_counts_app,fm_counts_app,Fm.counts,Fm.counts,fm_count];omega)
   refine .al Fx.zero35 Z λb9=>.h1<|.al Fx.zero35 Z λb8=>.h1<|.sW .head Z Z Fx.size35 (by simp [Value.oneCell',strV]) Z ((.yv (.loadR (vs:=cFm .u8 op1 nm1 fd1 a1 b1 (.slice q5 ex1.length d5) (.slice q6 args1.length d6)) Z Fx.agg35 mem3 Z hx1)<|.yv (.indexSl Fx.sl33 Z Z (i:=gs0.length) (by rw [hl0];omega) (by rw [hl1];omega) (q:=gs0.length * 7) (by omega))<|.yv (.move Z)<|.yv (.move Z)<|.d4<|.nl))<|.fn (tl:=[_]) Z<|.sX upd1 Z Z Fx.size35 Z<|.nt<|.sq<|.sr<|.fA Z Fx.field35_0<|.lD Z Fx.agg31 Hm Z<|.fA Z Fx.field35_0<|.lD Z Fx.agg31 mem1 Z<|.yw (.neq Z Z)<|.mv Z<|.b2 (λh32=>?_) (λh32=>?_)
   ·try simp only [dt] at h32
    have e1:=(λe=>h32 (by rw [e]):¬ op0=op1);refine .gG<|.gG<|.gG<|.gG<|.gG<|.yw (.pickT Z Z)<|.mv Z<|.gG<|.gG<|.gG<|.gG<|.gG<|.yw (.pickT Z Z)<|.mv Z<|.gG<|.gG<|.gG<|.gG<|.gG<|.yw (.pickT Z Z)<|.mv Z<|.gG<|.gG<|.gG<|.gG<|.gG<|.yw (.pickT Z Z)<|.mv Z<|.gG<|.gG<|.gG<|.gG<|.gG<|.gG<|.gG<|.yw (.pickT Z Z)<|.mv Z<|.gG<|.gG<|.gG<|.gG<|.gG<|.gG<|.yw (.pickT Z Z)<|.nt<|.cT Z<|.sr<|.az Z<|.tR<|.bR<|.tR<|.tR<|.bR<|.tR<|?_
    refine y9 Z Z λW s=>⟨retB ?_,s.ext⟩
    first
     | (rw [eqP_iff];exact ⟨λ_=>hall,λ_=>rfl⟩)
     | (rw [eqP_iff];exact ⟨λh=>(by cases h),λh=>absurd (hiff.1 h) (by rw [snocF_eq];exact λh=>e1 (h.2.1))⟩)
     | (rw [eqP_iff];exact ⟨λh=>(by cases h),λh=>absurd (hiff.1 h) (by rw [snocF_eq];exact λh=>e2 (h.2.2.1))⟩)
     | (rw [eqP_iff];exact ⟨λh=>(by cases h),λh=>absurd (hiff.1 h) (by rw [snocF_eq];exact λh=>e3 (h.2.2.2.1))⟩)
     | (rw [eqP_iff];exact ⟨λh=>(by cases h),λh=>absurd (hiff.1 h) (by rw [snocF_eq];exact λh=>e4 (h.2.2.2.2.1))⟩)
     | (rw [eqP_iff];exact ⟨λh=>(by cases h),λh=>absurd (hiff.1 h) (by rw [snocF_eq];exact λh=>e5 (h.2.2.2.2.2.1))⟩)
     | (rw [eqP_iff];exact ⟨λh=>(by cases h),λh=>absurd (hiff.1 h) (by rw [snocF_eq];exact λh=>e6 (by rw [h.2.2.2.2.2.2.2]))⟩)
     | (rw [eqP_iff];exact ⟨λh=>(by cases h),λh=>absurd (hiff.1 h) (by rw [snocF_eq];exact λh=>e7 h.2.2.2.2.2.2.1)⟩)
   try simp only [df] at h32
   have e1:=Al_UInt8_toNat_inj.1 (by omega:op0.toNat=op1.toNat);refine .gy (.fieldAddr Z Fx.field35_1)<|.gy (.load Z Fx.agg9 Hm Z)<|.gy (.fieldAddr Z Fx.field35_1)<|.gy (.load Z Fx.agg9 mem1 Z)<|.gy (.neS Z Z)<|.yw (.pickF Z Z)<|.mv Z<|.b2 (λh39=>?_) (λh39=>?_)
   ·try simp only [dt] at h39
    have e2:=(id h39:¬ nm0=nm1);refine .gG<|.gG<|.gG<|.gG<|.gG<|.yw (.pickT Z Z)<|.mv Z<|.gG<|.gG<|.gG<|.gG<|.gG<|.yw (.pickT Z Z)<|.mv Z<|.gG<|.gG<|.gG<|.gG<|.gG<|.yw (.pickT Z Z)<|.mv Z<|.gG<|.gG<|.gG<|.gG<|.gG<|.gG<|.gG<|.yw (.pickT Z Z)<|.mv Z<|.gG<|.gG<|.gG<|.gG<|.gG<|.gG<|.yw (.pickT Z Z)<|.nt<|.cT Z<|.sr<|.az Z<|.tR<|.bR<|.tR<|.tR<|.bR<|.tR<|?_
    refine y9 Z Z λW s=>⟨retB ?_,s.ext⟩
    first
     | (rw [eqP_iff];exact ⟨λ_=>hall,λ_=>rfl⟩)
     | (rw [eqP_iff];exact ⟨λh=>(by cases h),λh=>absurd (hiff.1 h) (by rw [snocF_eq];exact λh=>e1 (h.2.1))⟩)
     | (rw [eqP_iff];exact ⟨λh=>(by cases h),λh=>absurd (hiff.1 h) (by rw [snocF_eq];exact λh=>e2 (h.2.2.1))⟩)
     | (rw [eqP_iff];exact ⟨λh=>(by cases h),λh=>absurd (hiff.1 h) (by rw [snocF_eq];exact λh=>e3 (h.2.2.2.1))⟩)
     | (rw [eqP_iff];exact ⟨λh=>(by cases h),λh=>absurd (hiff.1 h) (by rw [snocF_eq];exact λh=>e4 (h.2.2.2.2.1))⟩)
     | (rw [eqP_iff];exact ⟨λh=>(by cases h),λh=>absurd (hiff.1 h) (by rw [snocF_eq];exact λh=>e5 (h.2.2.2.2.2.1))⟩)
     | (rw [eqP_iff];exact ⟨λh=>(by cases h),λh=>absurd (hiff.1 h) (by rw [snocF_eq];exact λh=>e6 (by rw [h.2.2.2.2.2.2.2]))⟩)
     | (rw [eqP_iff];exact ⟨λh=>(by cases h),λh=>absurd (hiff.1 h) (by rw [snocF_eq];exact λh=>e7 h.2.2.2.2.2.2.1)⟩)
   try simp only [df] at h39
   have e2:=(Al_Classical_not_not.1 h39:nm0=nm1);refine .gy (.fieldAddr Z Fx.field35_2)<|.gy (.load Z Fx.agg9 Hm Z)<|.gy (.fieldAddr Z Fx.field35_2)<|.gy (.load Z Fx.agg9 mem1 Z)<|.gy (.neS Z Z)<|.yw (.pickF Z Z)<|.mv Z<|.b2 (λh46=>?_) (λh46=>?_)
   ·try simp only [dt] at h46
    have e3:=(id h46:¬ fd0=fd1);refine .gG<|.gG<|.gG<|.gG<|.gG<|.yw (.pickT Z Z)<|.mv Z<|.gG<|.gG<|.gG<|.gG<|.gG<|.yw (.pickT Z Z)<|.mv Z<|.gG<|.gG<|.gG<|.gG<|.gG<|.gG<|.gG<|.yw (.pickT Z Z)<|.mv Z<|.gG<|.gG<|.gG<|.gG<|.gG<|.gG<|.yw (.pickT Z Z)<|.nt<|.cT Z<|.sr<|.az Z<|.tR<|.bR<|.tR<|.tR<|.bR<|.tR<|?_
    refine y9 Z Z λW s=>⟨retB ?_,s.ext⟩
    first
     | (rw [eqP_iff];exact ⟨λ_=>hall,λ_=>rfl⟩)
     | (rw [eqP_iff];exact ⟨λh=>(by cases h),λh=>absurd (hiff.1 h) (by rw [snocF_eq];exact λh=>e1 (h.2.1))⟩)
     | (rw [eqP_iff];exact ⟨λh=>(by cases h),λh=>absurd (hiff.1 h) (by rw [snocF_eq];exact λh=>e2 (h.2.2.1))⟩)
     | (rw [eqP_iff];exact ⟨λh=>(by cases h),λh=>absurd (hiff.1 h) (by rw [snocF_eq];exact λh=>e3 (h.2.2.2.1))⟩)
     | (rw [eqP_iff];exact ⟨λh=>(by cases h),λh=>absurd (hiff.1 h) (by rw [snocF_eq];exact λh=>e4 (h.2.2.2.2.1))⟩)
     | (rw [eqP_iff];exact ⟨λh=>(by cases h),λh=>absurd (hiff.1 h) (by rw [snocF_eq];exact λh=>e5 (h.2.2.2.2.2.1))⟩)
     | (rw [eqP_iff];exact ⟨λh=>(by cases h),λh=>absurd (hiff.1 h) (by rw [snocF_eq];exact λh=>e6 (by rw [h.2.2.2.2.2.2.2]))⟩)
     | (rw [eqP_iff];exact ⟨λh=>(by cases h),λh=>absurd (hiff.1 h) (by rw [snocF_eq];exact λh=>e7 h.2.2.2.2.2.2.1)⟩)
   try simp only [df] at h46
   have e3:=(Al_Classical_not_not.1 h46:fd0=fd1);refine .gy (.fieldAddr Z Fx.field35_3)<|.gy (.load Z Fx.agg3 Hm Z)<|.gy (.fieldAddr Z Fx.field35_3)<|.gy (.load Z Fx.agg3 mem1 Z)<|.gy (.neq Z Z)<|.yw (.pickF Z Z)<|.mv Z<|.b2 (λh53=>?_) (λh53=>?_)
   ·try simp only [dt] at h53
    have e4:=(λe=>h53 (by rw [e]):¬ a0=a1);refine .gG<|.gG<|.gG<|.gG<|.gG<|.yw (.pickT Z Z)<|.mv Z<|.gG<|.gG<|.gG<|.gG<|.gG<|.gG<|.gG<|.yw (.pickT Z Z)<|.mv Z<|.gG<|.gG<|.gG<|.gG<|.gG<|.gG<|.yw (.pickT Z Z)<|.nt<|.cT Z<|.sr<|.az Z<|.tR<|.bR<|.tR<|.tR<|.bR<|.tR<|?_
    refine y9 Z Z λW s=>⟨retB ?_,s.ext⟩
    first
     | (rw [eqP_iff];exact ⟨λ_=>hall,λ_=>rfl⟩)
     | (rw [eqP_iff];exact ⟨λh=>(by cases h),λh=>absurd (hiff.1 h) (by rw [snocF_eq];exact λh=>e1 (h.2.1))⟩)
     | (rw [eqP_iff];exact ⟨λh=>(by cases h),λh=>absurd (hiff.1 h) (by rw [snocF_eq];exact λh=>e2 (h.2.2.1))⟩)
     | (rw [eqP_iff];exact ⟨λh=>(by cases h),λh=>absurd (hiff.1 h) (by rw [snocF_eq];exact λh=>e3 (h.2.2.2.1))⟩)
     | (rw [eqP_iff];exact ⟨λh=>(by cases h),λh=>absurd (hiff.1 h) (by rw [snocF_eq];exact λh=>e4 (h.2.2.2.2.1))⟩)
     | (rw [eqP_iff];exact ⟨λh=>(by cases h),λh=>absurd (hiff.1 h) (by rw [snocF_eq];exact λh=>e5 (h.2.2.2.2.2.1))⟩)
     | (rw [eqP_iff];exact ⟨λh=>(by cases h),λh=>absurd (hiff.1 h) (by rw [snocF_eq];exact λh=>e6 (by rw [h.2.2.2.2.2.2.2]))⟩)
     | (rw [eqP_iff];exact ⟨λh=>(by cases h),λh=>absurd (hiff.1 h) (by rw [snocF_eq];exact λh=>e7 h.2.2.2.2.2.2.1)⟩)
   try simp only [df] at h53
   have e4:=Al_Int64_toInt_inj.1 (by omega:a0.toInt=a1.toInt);refine .gy (.fieldAddr Z Fx.field35_4)<|.gy (.load Z Fx.agg3 Hm Z)<|.gy (.fieldAddr Z Fx.field35_4)<|.gy (.load Z Fx.agg3 mem1 Z)<|.gy (.neq Z Z)<|.yw (.pickF Z Z)<|.mv Z<|.b2 (λh60=>?_) (λh60=>?_)
   ·try simp only [dt] at h60
    have e5:=(λe=>h60 (by rw [e]):¬ b0=b1);refine .gG<|.gG<|.gG<|.gG<|.gG<|.gG<|.gG<|.yw (.pickT Z Z)<|.mv Z<|.gG<|.gG<|.gG<|.gG<|.gG<|.gG<|.yw (.pickT Z Z)<|.nt<|.cT Z<|.sr<|.az Z<|.tR<|.bR<|.tR<|.tR<|.bR<|.tR<|?_
    refine y9 Z Z λW s=>⟨retB ?_,s.ext⟩
    first
     | (rw [eqP_iff];exact ⟨λ_=>hall,λ_=>rfl⟩)
     | (rw [eqP_iff];exact ⟨λh=>(by cases h),λh=>absurd (hiff.1 h) (by rw [snocF_eq];exact λh=>e1 (h.2.1))⟩)
     | (rw [eqP_iff];exact ⟨λh=>(by cases h),λh=>absurd (hiff.1 h) (by rw [snocF_eq];exact λh=>e2 (h.2.2.1))⟩)
     | (rw [eqP_iff];exact ⟨λh=>(by cases h),λh=>absurd (hiff.1 h) (by rw [snocF_eq];exact λh=>e3 (h.2.2.2.1))⟩)
     | (rw [eqP_iff];exact ⟨λh=>(by cases h),λh=>absurd (hiff.1 h) (by rw [snocF_eq];exact λh=>e4 (h.2.2.2.2.1))⟩)
     | (rw [eqP_iff];exact ⟨λh=>(by cases h),λh=>absurd (hiff.1 h) (by rw [snocF_eq];exact λh=>e5 (h.2.2.2.2.2.1))⟩)
     | (rw [eqP_iff];exact ⟨λh=>(by cases h),λh=>absurd (hiff.1 h) (by rw [snocF_eq];exact λh=>e6 (by rw [h.2.2.2.2.2.2.2]))⟩)
     | (rw [eqP_iff];exact ⟨λh=>(by cases h),λh=>absurd (hiff.1 h) (by rw [snocF_eq];exact λh=>e7 h.2.2.2.2.2.2.1)⟩)
   try simp only [df] at h60
   have e5:=Al_Int64_toInt_inj.1 (by omega:b0.toInt=b1.toInt);refine .gy (.fieldAddr Z Fx.field35_6)<|.gy (.load Z Fx.agg33 Hm Z)<|.gy (.lenSl Fx.sl33 Z)<|.gy (.fieldAddr Z Fx.field35_6)<|.gy (.load Z Fx.agg33 mem1 Z)<|.gy (.lenSl Fx.sl33 Z)<|.gy (.neq Z Z)<|.yw (.pickF Z Z)<|.mv Z<|.b2 (λh69=>?_) (λh69=>?_)
   ·try simp only [dt] at h69
    have e6:=(λe=>h69 (by rw [e]):¬ args0.length=args1.length);refine .gG<|.gG<|.gG<|.gG<|.gG<|.gG<|.yw (.pickT Z Z)<|.nt<|.cT Z<|.sr<|.az Z<|.tR<|.bR<|.tR<|.tR<|.bR<|.tR<|?_
    refine y9 Z Z λW s=>⟨retB ?_,s.ext⟩
    first
     | (rw [eqP_iff];exact ⟨λ_=>hall,λ_=>rfl⟩)
     | (rw [eqP_iff];exact ⟨λh=>(by cases h),λh=>absurd (hiff.1 h) (by rw [snocF_eq];exact λh=>e1 (h.2.1))⟩)
     | (rw [eqP_iff];exact ⟨λh=>(by cases h),λh=>absurd (hiff.1 h) (by rw [snocF_eq];exact λh=>e2 (h.2.2.1))⟩)
     | (rw [eqP_iff];exact ⟨λh=>(by cases h),λh=>absurd (hiff.1 h) (by rw [snocF_eq];exact λh=>e3 (h.2.2.2.1))⟩)
     | (rw [eqP_iff];exact ⟨λh=>(by cases h),λh=>absurd (hiff.1 h) (by rw [snocF_eq];exact λh=>e4 (h.2.2.2.2.1))⟩)
     | (rw [eqP_iff];exact ⟨λh=>(by cases h),λh=>absurd (hiff.1 h) (by rw [snocF_eq];exact λh=>e5 (h.2.2.2.2.2.1))⟩)
     | (rw [eqP_iff];exact ⟨λh=>(by cases h),λh=>absurd (hiff.1 h) (by rw [snocF_eq];exact λh=>e6 (by rw [h.2.2.2.2.2.2.2]))⟩)
     | (rw [eqP_iff];exact ⟨λh=>(by cases h),λh=>absurd (hiff.1 h) (by rw [snocF_eq];exact λh=>e7 h.2.2.2.2.2.2.1)⟩)
   try simp only [df] at h69
   have e6:=(by omega:args0.length=args1.length);refine .gy (.fieldAddr Z Fx.field35_5)<|.gy (.load Z Fx.agg32 Hm Z)<|.gy (.fieldAddr Z Fx.field35_5)<|.gy (.load Z Fx.agg32 mem1 Z)<|.gy (.call Fx.call51 Z (λW s=>eqFuncE H 52 Fx.call52 ex0 ex1 (λa _=>equalExpr_any H a) _ _ hs0 hs5 W s.agr))<|.gy (.not Z)<|.yw (.pickF Z Z)<|.nt<|.cd Z (λh76=>?_) (λh76=>?_)
   ·try simp only [dt] at h76
    have e7:=eqP_false.1 (by simpa using h76);refine .sr<|.az Z<|.tR<|.bR<|.tR<|.tR<|.bR<|.tR<|?_
    refine y9 Z Z λW s=>⟨retB ?_,s.ext⟩
    first
     | (rw [eqP_iff];exact ⟨λ_=>hall,λ_=>rfl⟩)
     | (rw [eqP_iff];exact ⟨λh=>(by cases h),λh=>absurd (hiff.1 h) (by rw [snocF_eq];exact λh=>e1 (h.2.1))⟩)
     | (rw [eqP_iff];exact ⟨λh=>(by cases h),λh=>absurd (hiff.1 h) (by rw [snocF_eq];exact λh=>e2 (h.2.2.1))⟩)
     | (rw [eqP_iff];exact ⟨λh=>(by cases h),λh=>absurd (hiff.1 h) (by rw [snocF_eq];exact λh=>e3 (h.2.2.2.1))⟩)
     | (rw [eqP_iff];exact ⟨λh=>(by cases h),λh=>absurd (hiff.1 h) (by rw [snocF_eq];exact λh=>e4 (h.2.2.2.2.1))⟩)
     | (rw [eqP_iff];exact ⟨λh=>(by cases h),λh=>absurd (hiff.1 h) (by rw [snocF_eq];exact λh=>e5 (h.2.2.2.2.2.1))⟩)
     | (rw [eqP_iff];exact ⟨λh=>(by cases h),λh=>absurd (hiff.1 h) (by rw [snocF_eq];exact λh=>e6 (by rw [h.2.2.2.2.2.2.2]))⟩)
     | (rw [eqP_iff];exact ⟨λh=>(by cases h),λh=>absurd (hiff.1 h) (by rw [snocF_eq];exact λh=>e7 h.2.2.2.2.2.2.1)⟩)
   try simp only [df] at h76
   have e7:=eqP_iff.1 (by simpa using h76);refine Sx.At.rcut (size:=7) (m:=fs0.length) (ys:=xf.take (fs0.length * 7)) upd2 (by rw [hl0];exact Nat.le_succ _) rfl ?_;refine Sx.At.rcut (size:=7) (m:=gs0.length) (ys:=xg.take (gs0.length * 7)) upd3 (by rw [hl1];exact Nat.le_succ _) rfl ?_;exact .sk<|.tN<|.fL 12 [(0,0),(1,0),(2,0),(3,0),(4,0),(6,0),(7,0),(8,0),(9,0),(10,0),(5,3),(11,3)]<|.mv Z<|.mv Z<|.yw (.cutHi Fx.sl33 Z Z (h:=fs0.length) (by rw [hl0];omega) (by rw [hl0] at hgc;omega) (λq e=>by cases e;rfl))<|.fA Z Fx.field35_6<|.lD Z Fx.agg33 Hm Z<|.mv Z<|.mv Z<|.yw (.cutHi Fx.sl33 Z Z (h:=gs0.length) (by rw [hl0];omega) (by rw [hl1] at hgd;omega) (λq e=>by cases e;rfl))<|.fA Z Fx.field35_6<|.lD Z Fx.agg33 mem1 Z<|.apD Fx.row33 Z (λ_ _=>upd2) Z hs3 (by simp only [maxLen];omega) (by omega) Z (λ_ _=>(.yv (.load Z Fx.agg33 mem1 Z)<|.yv (.fieldAddr Z Fx.field35_6)<|.yv (.cutHi Fx.sl33 Z Z (h:=gs0.length) (by rw [hl0];omega) (by rw [hl1] at hgd;omega) (λq e=>by cases e;rfl))<|.yv (.move Z)<|.yv (.move Z)<|.d3<|.d2<|.nl)) λnews pN cN hzn=>.apD Fx.row33 Z (λ_ _=>upd3) Z hs6 (by simp only [maxLen];omega) (by omega) Z (λ_ _=>(.d4<|.d4<|.d2<|.nl)) λmews pM cM hzm=>.fn (tl:=[_,_]) Z<|.a Z Z<|.a Z Z<|.nl<|.bN<|.tN<|.rg<|.mv Z<|.yw (.lenSl Fx.sl33 Z)<|.yw (.sub Z Z (w6 (by omega)))<|.aq Z<|.ag (x:=(n,fs0++[Fm.mk op0 nm0 fd0 a0 b0 ex0 args0],gs0++[Fm.mk op1 nm1 fd1 a1 b1 ex1 args1],Value.slice (some ⟨wf,0,none⟩) (fs0++[Fm.mk op0 nm0 fd0 a0 b0 ex0 args0]).length cf,Value.slice (some ⟨wg,0,none⟩) (gs0++[Fm.mk op1 nm1 fd1 a1 b1 ex1 args1]).length cg,xf,xg)) (n+1,fs0++args0,gs0++args1,Value.slice pN (fs0.length+args0.length) cN,Value.slice pM (gs0.length+args1.length) cM,xf.take (fs0.length * 7)++news,xg.take (gs0.length * 7)++mews) ⟨Z,Z,by dsimp only;exact congrArg (λm:Nat=>some (Value.int .i64 ((m:Int) - 1))) (Al_List_length_append ).symm,Jt⟩ trivial (λ_ s=>by dsimp only;rw [Al_List_length_append,Al_List_length_append];exact (s.pick [2,3,4,5] _ Z Z)) ⟨by rw [Al_List_map_append];exact hz0.app hzn,by rw [Al_List_map_append];exact hz1.app hzm,by dsimp only;rw [Al_List_length_append,Al_List_length_append];omega,by dsimp only;rw [fm_counts_app];omega,λe he=>by rcases Al_List_mem_append.1 he with h | h;exact hbf e (Al_List_mem_append.2 (.inl h));exact hb0.2 e h,by dsimp only;rw [Al_List_length_append,hNs];omega,by dsimp only;exact hiff.trans (snocF_app e1 e2 e3 e4 e5 e6 e7 hle)⟩ (by dsimp only;rw [fm_counts_app,fm_counts_app,Fm.counts,Fm.counts,fm_count];omega)
  try simp only [df] at h15
  have hfs:fs=[]:=Al_List_eq_nil_of_length_eq_zero (by omega);have hgs:gs=[]:=Al_List_eq_nil_of_length_eq_zero (by omega);have hall:=hiff.2 (by rw [hfs,hgs]);refine .ex<|.eb<|.sr<|.az Z<|?_
  refine y9 Z Z λW s=>⟨retB ?_,s.ext⟩
  first
   | (rw [eqP_iff];exact ⟨λ_=>hall,λ_=>rfl⟩)
   | (rw [eqP_iff];exact ⟨λh=>(by cases h),λh=>absurd (hiff.1 h) (by rw [snocF_eq];exact λh=>e1 (h.2.1))⟩)
   | (rw [eqP_iff];exact ⟨λh=>(by cases h),λh=>absurd (hiff.1 h) (by rw [snocF_eq];exact λh=>e2 (h.2.2.1))⟩)
   | (rw [eqP_iff];exact ⟨λh=>(by cases h),λh=>absurd (hiff.1 h) (by rw [snocF_eq];exact λh=>e3 (h.2.2.2.1))⟩)
   | (rw [eqP_iff];exact ⟨λh=>(by cases h),λh=>absurd (hiff.1 h) (by rw [snocF_eq];exact λh=>e4 (h.2.2.2.2.1))⟩)
   | (rw [eqP_iff];exact ⟨λh=>(by cases h),λh=>absurd (hiff.1 h) (by rw [snocF_eq];exact λh=>e5 (h.2.2.2.2.2.1))⟩)
   | (rw [eqP_iff];exact ⟨λh=>(by cases h),λh=>absurd (hiff.1 h) (by rw [snocF_eq];exact λh=>e6 (by rw [h.2.2.2.2.2.2.2]))⟩)
   | (rw [eqP_iff];exact ⟨λh=>(by cases h),λh=>absurd (hiff.1 h) (by rw [snocF_eq];exact λh=>e7 h.2.2.2.2.2.2.1)⟩)
 refine .blR (z:=7) Z (Fx.bsl33_1 _ _ _ _ _ _ _) Z Z (by simp [maxLen]) λb13=>.h1<|.blR (z:=7) Z (Fx.bsl33_1 _ _ _ _ _ _ _) Z Z (by simp [maxLen]) λb11=>.a Z Z<|.fn (tl:=[_]) Z<|.aq Z<|.sq<|.sr<|.aq Z<|.bk<|.lp (X:=Nat × List Fm × List Fm × Value × Value × List Value × List Value) [] trivial [_,_] (λz=>[(5,z.2.2.2.1),(6,z.2.2.2.2.1),(7,.int .i64 ((z.2.1.length:Int) - 1))]) (λz=>H) (λz=>[.row 35 7 z.2.2.2.1 z.2.1.length z.2.2.2.2.2.1,.row 35 7 z.2.2.2.2.1 z.2.2.1.length z.2.2.2.2.2.2]) (λz=>RepZ H 7 (z.2.1.map (dFm .u8)) z.2.2.2.2.2.1/\RepZ H 7 (z.2.2.1.map (dFm .u8)) z.2.2.2.2.2.2/\z.2.1.length=z.2.2.1.length/\z.1+Fm.counts z.2.1<=Fm.count (.mk op nm fd a b ex args)/\(∀ g∈z.2.1,blF N g=true)/\z.2.1.length<=1+N * z.1/\(Fm.mk op nm fd a b ex args=Fm.mk opb nmb fdb ab bb exb argsb↔z.2.1=z.2.2.1)) (λz=>Fm.counts z.2.1) (0,[Fm.mk op nm fd a b ex args],[Fm.mk opb nmb fdb ab bb exb argsb],.slice (some ⟨b11,0,none⟩) 1 1,.slice (some ⟨b13,0,none⟩) 1 1,[.int .u8 op.toNat,strV nm,strV fd,.int .i64 a.toInt,.int .i64 b.toInt,.slice p1 ex.length c1,.slice p2 args.length c2],[.int .u8 opb.toNat,strV nmb,strV fdb,.int .i64 ab.toInt,.int .i64 bb.toInt,.slice p3 exb.length c3,.slice p4 argsb.length c4]) (λ_ s=>s) ⟨Z,Z,Z,Jt⟩ ⟨.single h Z,.single k Z,Z,by rw [Fm.counts,Fm.counts];omega,λg hg=>by rw [Al_List_mem_singleton.1 hg];exact hb,by simp,by simp⟩ λz hC=>?_
 obtain ⟨n,fs,gs,rf,rg,xf,xg⟩:=z;obtain ⟨zf,zg,hle,hcnt,hbf,hlen,hiff⟩:=hC;dsimp only at zf zg hle hcnt hbf hlen hiff|-;have hNn:N * n<=N * Fm.count (.mk op nm fd a b ex args):=Al_Nat_mul_le_mul_left N (by omega);refine At.ra (size:=7) (r:=rf) (e:=35) Hm λpf cf e=>?_;subst e;refine At.ra (size:=7) (r:=rg) (e:=35) mem1 λpg cg e=>?_;subst e;refine .sq<|.sm Z<|.yw (.geq Z Z)<|.nt<|.cd Z (λh15=>?_) (λh15=>?_)
 ·try simp only [dt] at h15
  have hpos:0<fs.length:=by omega
  obtain ⟨fs0,f0,rfl⟩:∃ fs0 f0,fs=fs0++[f0]:=by
   rcases List.eq_nil_or_concat fs with h | ⟨t,x,h⟩
   ·subst h;simp at hpos hle
   ·exact ⟨t,x,by rw [h,List.concat_eq_append]⟩
  have hl0:(fs0++[f0]).length=fs0.length+1:=by rw [Al_List_length_append];rfl
  refine Sx.rowCase (size:=7) (r:=.slice pf (fs0++[f0]).length cf) (e:=35) Hm (by rw [hl0];exact Nat.succ_pos _) λwf c e hgc=>?_;injection e with e3 _ e4
  subst e3 e4;obtain ⟨cs0,r0,hc0,hx0⟩:=RepZ.at zf (i:=fs0.length) (d:=dFm .u8 f0) (by rw [Al_List_map_append,List.getElem?_append_right (by rw [Al_List_length_map];exact Al_Nat_le_refl _),Al_List_length_map,Al_Nat_sub_self];rfl)
  have hz0:RepZ H 7 (fs0.map (dFm .u8)) (xf.take (fs0.length * 7)):=by
   have h:=RepZ.take fs0.length zf;rw [Al_List_map_append,List.take_left' (by rw [Al_List_length_map])] at h;exact h
  obtain ⟨gs0,g0,rfl⟩:∃ fs0 f0,gs=fs0++[f0]:=by
   rcases List.eq_nil_or_concat gs with h | ⟨t,x,h⟩
   ·subst h;simp at hpos hle
   ·exact ⟨t,x,by rw [h,List.concat_eq_append]⟩
  have hl1:(gs0++[g0]).length=gs0.length+1:=by rw [Al_List_length_append];rfl
  refine Sx.rowCase (size:=7) (r:=.slice pg (gs0++[g0]).length cg) (e:=35) mem1 (by rw [hl1];exact Nat.succ_pos _) λwg c e hgd=>?_;injection e with e3 _ e4
  subst e3 e4;obtain ⟨cs1,r1,hc1,hx1⟩:=RepZ.at zg (i:=gs0.length) (d:=dFm .u8 g0) (by rw [Al_List_map_append,List.getElem?_append_right (by rw [Al_List_length_map];exact Al_Nat_le_refl _),Al_List_length_map,Al_Nat_sub_self];rfl)
  have hz1:RepZ H 7 (gs0.map (dFm .u8)) (xg.take (gs0.length * 7)):=by
   have h:=RepZ.take gs0.length zg;rw [Al_List_map_append,List.take_left' (by rw [Al_List_length_map])] at h;exact h
  obtain ⟨op0,nm0,fd0,a0,b0,ex0,args0⟩:=f0;obtain ⟨op1,nm1,fd1,a1,b1,ex1,args1⟩:=g0;obtain ⟨q1,d1,q2,d2,rfl,hs0,hs3,_,_⟩:=fm_open r0;obtain ⟨q5,d5,q6,d6,rfl,hs5,hs6,_,_⟩:=fm_open r1;have hb0:=(blF_mk.1 (hbf _ (Al_List_mem_append.2 (.inr (Al_List_mem_singleton.2 rfl)))));rw [fm_counts_app,Fm.counts,Fm.counts,fm_count] at hcnt;rw [hl0,hl1] at hle;rw [hl0] at hlen;have hNs:N * (n+1)=N * n+N:=Nat.mul_succ N n;have hcp0:=hs3.cap;have hcp1:=hs6.cap;refine .sk<|.tN<|.sq<|.bk<|.sq<|.ft (p:=.light _ _ (.light _ _ (.light _ _ (.light _ _ (.light _ _ (.light _ _ (.light _ _ (.light _ _ (.alt _ _ _ (.alt _ _ _ (.alt _ _ _ (.done) (.no)) (.no)) (.alt _ _ _ (.alt _ _ _ (.alt _ _ _ (.done) (.no)) (.no)) (.no))))))))))) 11 (.light 0 (.light 1 (.light 2 (.light 3 (.light 4 (.light 5 (.light 6 (.light 7 (.alt 8 0 (.alt 9 0 (.alt 10 2 (.done) (.no)) (.no)) (.alt 9 0 (.alt 8 0 (.alt 10 2 (.done) (.no)) (.no)) (.no))))))))))) (by kernel_rfl) (by kernel_rfl) Z<|.mv Z<|.mv Z<|.yw (.indexSl Fx.sl33 Z Z (i:=fs0.length) (by rw [hl0];omega) (by rw [hl0];omega) (q:=fs0.length * 7) (by omega))<|.yw (.loadR (vs:=cFm .u8 op0 nm0 fd0 a0 b0 (.slice q1 ex0.length d1) (.slice q2 args0.length d2)) Z Fx.agg35 Hm Z hx0)<|.mv Z<|.mv Z<|.yw (.indexSl Fx.sl33 Z Z (i:=gs0.length) (by rw [hl0];omega) (by rw [hl1];omega) (q:=gs0.length * 7) (by omega))<|.yw (.loadR (vs:=cFm .u8 op1 nm1 fd1 a1 b1 (.slice q5 ex1.length d5) (.slice q6 args1.length d6)) Z Fx.agg35 mem1 Z hx1)<|.h ?_ (.h ?_ .nn)
  ·
   refine .al Fx.zero35 Z λb8=>.h1<|.al Fx.zero35 Z λb9=>.h1<|.sW upd1 Z Z Fx.size35 (by simp [Value.oneCell',strV]) Z ((.yv (.loadR (vs:=cFm .u8 op1 nm1 fd1 a1 b1 (.slice q5 ex1.length d5) (.slice q6 args1.length d6)) Z Fx.agg35 mem3 Z hx1)<|.yv (.indexSl Fx.sl33 Z Z (i:=gs0.length) (by rw [hl0];omega) (by rw [hl1];omega) (q:=gs0.length * 7) (by omega))<|.yv (.move Z)<|.yv (.move Z)<|.d4<|.nl))<|.fn (tl:=[_]) Z<|.sX .head Z Z Fx.size35 Z<|.nt<|.sq<|.sr<|.fA Z Fx.field35_0<|.lD Z Fx.agg31 mem1 Z<|.fA Z Fx.field35_0<|.lD Z Fx.agg31 Hm Z<|.yw (.neq Z Z)<|.mv Z<|.b2 (λh32=>?_) (λh32=>?_)
   ·try simp only [dt] at h32
    have e1:=(λe=>h32 (by rw [e]):¬ op0=op1);refine .gG<|.gG<|.gG<|.gG<|.gG<|.yw (.pickT Z Z)<|.mv Z<|.gG<|.gG<|.gG<|.gG<|.gG<|.yw (.pickT Z Z)<|.mv Z<|.gG<|.gG<|.gG<|.gG<|.gG<|.yw (.pickT Z Z)<|.mv Z<|.gG<|.gG<|.gG<|.gG<|.gG<|.yw (.pickT Z Z)<|.mv Z<|.gG<|.gG<|.gG<|.gG<|.gG<|.gG<|.gG<|.yw (.pickT Z Z)<|.mv Z<|.gG<|.gG<|.gG<|.gG<|.gG<|.gG<|.yw (.pickT Z Z)<|.nt<|.cT Z<|.sr<|.az Z<|.tR<|.bR<|.tR<|.tR<|.bR<|.tR<|?_
    refine y9 Z Z λW s=>⟨retB ?_,s.ext⟩
    first
     | (rw [eqP_iff];exact ⟨λ_=>hall,λ_=>rfl⟩)
     | (rw [eqP_iff];exact ⟨λh=>(by cases h),λh=>absurd (hiff.1 h) (by rw [snocF_eq];exact λh=>e1 (h.2.1))⟩)
     | (rw [eqP_iff];exact ⟨λh=>(by cases h),λh=>absurd (hiff.1 h) (by rw [snocF_eq];exact λh=>e2 (h.2.2.1))⟩)
     | (rw [eqP_iff];exact ⟨λh=>(by cases h),λh=>absurd (hiff.1 h) (by rw [snocF_eq];exact λh=>e3 (h.2.2.2.1))⟩)
     | (rw [eqP_iff];exact ⟨λh=>(by cases h),λh=>absurd (hiff.1 h) (by rw [snocF_eq];exact λh=>e4 (h.2.2.2.2.1))⟩)
     | (rw [eqP_iff];exact ⟨λh=>(by cases h),λh=>absurd (hiff.1 h) (by rw [snocF_eq];exact λh=>e5 (h.2.2.2.2.2.1))⟩)
     | (rw [eqP_iff];exact ⟨λh=>(by cases h),λh=>absurd (hiff.1 h) (by rw [snocF_eq];exact λh=>e6 (by rw [h.2.2.2.2.2.2.2]))⟩)
     | (rw [eqP_iff];exact ⟨λh=>(by cases h),λh=>absurd (hiff.1 h) (by rw [snocF_eq];exact λh=>e7 h.2.2.2.2.2.2.1)⟩)
   try simp only [df] at h32
   have e1:=Al_UInt8_toNat_inj.1 (by omega:op0.toNat=op1.toNat);refine .gy (.fieldAddr Z Fx.field35_1)<|.gy (.load Z Fx.agg9 mem1 Z)<|.gy (.fieldAddr Z Fx.field35_1)<|.gy (.load Z Fx.agg9 Hm Z)<|.gy (.neS Z Z)<|.yw (.pickF Z Z)<|.mv Z<|.b2 (λh39=>?_) (λh39=>?_)
   ·try simp only [dt] at h39
    have e2:=(id h39:¬ nm0=nm1);refine .gG<|.gG<|.gG<|.gG<|.gG<|.yw (.pickT Z Z)<|.mv Z<|.gG<|.gG<|.gG<|.gG<|.gG<|.yw (.pickT Z Z)<|.mv Z<|.gG<|.gG<|.gG<|.gG<|.gG<|.yw (.pickT Z Z)<|.mv Z<|.gG<|.gG<|.gG<|.gG<|.gG<|.gG<|.gG<|.yw (.pickT Z Z)<|.mv Z<|.gG<|.gG<|.gG<|.gG<|.gG<|.gG<|.yw (.pickT Z Z)<|.nt<|.cT Z<|.sr<|.az Z<|.tR<|.bR<|.tR<|.tR<|.bR<|.tR<|?_
    refine y9 Z Z λW s=>⟨retB ?_,s.ext⟩
    first
     | (rw [eqP_iff];exact ⟨λ_=>hall,λ_=>rfl⟩)
     | (rw [eqP_iff];exact ⟨λh=>(by cases h),λh=>absurd (hiff.1 h) (by rw [snocF_eq];exact λh=>e1 (h.2.1))⟩)
     | (rw [eqP_iff];exact ⟨λh=>(by cases h),λh=>absurd (hiff.1 h) (by rw [snocF_eq];exact λh=>e2 (h.2.2.1))⟩)
     | (rw [eqP_iff];exact ⟨λh=>(by cases h),λh=>absurd (hiff.1 h) (by rw [snocF_eq];exact λh=>e3 (h.2.2.2.1))⟩)
     | (rw [eqP_iff];exact ⟨λh=>(by cases h),λh=>absurd (hiff.1 h) (by rw [snocF_eq];exact λh=>e4 (h.2.2.2.2.1))⟩)
     | (rw [eqP_iff];exact ⟨λh=>(by cases h),λh=>absurd (hiff.1 h) (by rw [snocF_eq];exact λh=>e5 (h.2.2.2.2.2.1))⟩)
     | (rw [eqP_iff];exact ⟨λh=>(by cases h),λh=>absurd (hiff.1 h) (by rw [snocF_eq];exact λh=>e6 (by rw [h.2.2.2.2.2.2.2]))⟩)
     | (rw [eqP_iff];exact ⟨λh=>(by cases h),λh=>absurd (hiff.1 h) (by rw [snocF_eq];exact λh=>e7 h.2.2.2.2.2.2.1)⟩)
   try simp only [df] at h39
   have e2:=(Al_Classical_not_not.1 h39:nm0=nm1);refine .gy (.fieldAddr Z Fx.field35_2)<|.gy (.load Z Fx.agg9 mem1 Z)<|.gy (.fieldAddr Z Fx.field35_2)<|.gy (.load Z Fx.agg9 Hm Z)<|.gy (.neS Z Z)<|.yw (.pickF Z Z)<|.mv Z<|.b2 (λh46=>?_) (λh46=>?_)
   ·try simp only [dt] at h46
    have e3:=(id h46:¬ fd0=fd1);refine .gG<|.gG<|.gG<|.gG<|.gG<|.yw (.pickT Z Z)<|.mv Z<|.gG<|.gG<|.gG<|.gG<|.gG<|.yw (.pickT Z Z)<|.mv Z<|.gG<|.gG<|.gG<|.gG<|.gG<|.gG<|.gG<|.yw (.pickT Z Z)<|.mv Z<|.gG<|.gG<|.gG<|.gG<|.gG<|.gG<|.yw (.pickT Z Z)<|.nt<|.cT Z<|.sr<|.az Z<|.tR<|.bR<|.tR<|.tR<|.bR<|.tR<|?_
    refine y9 Z Z λW s=>⟨retB ?_,s.ext⟩
    first
     | (rw [eqP_iff];exact ⟨λ_=>hall,λ_=>rfl⟩)
     | (rw [eqP_iff];exact ⟨λh=>(by cases h),λh=>absurd (hiff.1 h) (by rw [snocF_eq];exact λh=>e1 (h.2.1))⟩)
     | (rw [eqP_iff];exact ⟨λh=>(by cases h),λh=>absurd (hiff.1 h) (by rw [snocF_eq];exact λh=>e2 (h.2.2.1))⟩)
     | (rw [eqP_iff];exact ⟨λh=>(by cases h),λh=>absurd (hiff.1 h) (by rw [snocF_eq];exact λh=>e3 (h.2.2.2.1))⟩)
     | (rw [eqP_iff];exact ⟨λh=>(by cases h),λh=>absurd (hiff.1 h) (by rw [snocF_eq];exact λh=>e4 (h.2.2.2.2.1))⟩)
     | (rw [eqP_iff];exact ⟨λh=>(by cases h),λh=>absurd (hiff.1 h) (by rw [snocF_eq];exact λh=>e5 (h.2.2.2.2.2.1))⟩)
     | (rw [eqP_iff];exact ⟨λh=>(by cases h),λh=>absurd (hiff.1 h) (by rw [snocF_eq];exact λh=>e6 (by rw [h.2.2.2.2.2.2.2]))⟩)
     | (rw [eqP_iff];exact ⟨λh=>(by cases h),λh=>absurd (hiff.1 h) (by rw [snocF_eq];exact λh=>e7 h.2.2.2.2.2.2.1)⟩)
   try simp only [df] at h46
   have e3:=(Al_Classical_not_not.1 h46:fd0=fd1);refine .gy (.fieldAddr Z Fx.field35_3)<|.gy (.load Z Fx.agg3 mem1 Z)<|.gy (.fieldAddr Z Fx.field35_3)<|.gy (.load Z Fx.agg3 Hm Z)<|.gy (.neq Z Z)<|.yw (.pickF Z Z)<|.mv Z<|.b2 (λh53=>?_) (λh53=>?_)
   ·try simp only [dt] at h53
    have e4:=(λe=>h53 (by rw [e]):¬ a0=a1);refine .gG<|.gG<|.gG<|.gG<|.gG<|.yw (.pickT Z Z)<|.mv Z<|.gG<|.gG<|.gG<|.gG<|.gG<|.gG<|.gG<|.yw (.pickT Z Z)<|.mv Z<|.gG<|.gG<|.gG<|.gG<|.gG<|.gG<|.yw (.pickT Z Z)<|.nt<|.cT Z<|.sr<|.az Z<|.tR<|.bR<|.tR<|.tR<|.bR<|.tR<|?_
    refine y9 Z Z λW s=>⟨retB ?_,s.ext⟩
    first
     | (rw [eqP_iff];exact ⟨λ_=>hall,λ_=>rfl⟩)
     | (rw [eqP_iff];exact ⟨λh=>(by cases h),λh=>absurd (hiff.1 h) (by rw [snocF_eq];exact λh=>e1 (h.2.1))⟩)
     | (rw [eqP_iff];exact ⟨λh=>(by cases h),λh=>absurd (hiff.1 h) (by rw [snocF_eq];exact λh=>e2 (h.2.2.1))⟩)
     | (rw [eqP_iff];exact ⟨λh=>(by cases h),λh=>absurd (hiff.1 h) (by rw [snocF_eq];exact λh=>e3 (h.2.2.2.1))⟩)
     | (rw [eqP_iff];exact ⟨λh=>(by cases h),λh=>absurd (hiff.1 h) (by rw [snocF_eq];exact λh=>e4 (h.2.2.2.2.1))⟩)
     | (rw [eqP_iff];exact ⟨λh=>(by cases h),λh=>absurd (hiff.1 h) (by rw [snocF_eq];exact λh=>e5 (h.2.2.2.2.2.1))⟩)
     | (rw [eqP_iff];exact ⟨λh=>(by cases h),λh=>absurd (hiff.1 h) (by rw [snocF_eq];exact λh=>e6 (by rw [h.2.2.2.2.2.2.2]))⟩)
     | (rw [eqP_iff];exact ⟨λh=>(by cases h),λh=>absurd (hiff.1 h) (by rw [snocF_eq];exact λh=>e7 h.2.2.2.2.2.2.1)⟩)
   try simp only [df] at h53
   have e4:=Al_Int64_toInt_inj.1 (by omega:a0.toInt=a1.toInt);refine .gy (.fieldAddr Z Fx.field35_4)<|.gy (.load Z Fx.agg3 mem1 Z)<|.gy (.fieldAddr Z Fx.field35_4)<|.gy (.load Z Fx.agg3 Hm Z)<|.gy (.neq Z Z)<|.yw (.pickF Z Z)<|.mv Z<|.b2 (λh60=>?_) (λh60=>?_)
   ·try simp only [dt] at h60
    have e5:=(λe=>h60 (by rw [e]):¬ b0=b1);refine .gG<|.gG<|.gG<|.gG<|.gG<|.gG<|.gG<|.yw (.pickT Z Z)<|.mv Z<|.gG<|.gG<|.gG<|.gG<|.gG<|.gG<|.yw (.pickT Z Z)<|.nt<|.cT Z<|.sr<|.az Z<|.tR<|.bR<|.tR<|.tR<|.bR<|.tR<|?_
    refine y9 Z Z λW s=>⟨retB ?_,s.ext⟩
    first
     | (rw [eqP_iff];exact ⟨λ_=>hall,λ_=>rfl⟩)
     | (rw [eqP_iff];exact ⟨λh=>(by cases h),λh=>absurd (hiff.1 h) (by rw [snocF_eq];exact λh=>e1 (h.2.1))⟩)
     | (rw [eqP_iff];exact ⟨λh=>(by cases h),λh=>absurd (hiff.1 h) (by rw [snocF_eq];exact λh=>e2 (h.2.2.1))⟩)
     | (rw [eqP_iff];exact ⟨λh=>(by cases h),λh=>absurd (hiff.1 h) (by rw [snocF_eq];exact λh=>e3 (h.2.2.2.1))⟩)
     | (rw [eqP_iff];exact ⟨λh=>(by cases h),λh=>absurd (hiff.1 h) (by rw [snocF_eq];exact λh=>e4 (h.2.2.2.2.1))⟩)
     | (rw [eqP_iff];exact ⟨λh=>(by cases h),λh=>absurd (hiff.1 h) (by rw [snocF_eq];exact λh=>e5 (h.2.2.2.2.2.1))⟩)
     | (rw [eqP_iff];exact ⟨λh=>(by cases h),λh=>absurd (hiff.1 h) (by rw [snocF_eq];exact λh=>e6 (by rw [h.2.2.2.2.2.2.2]))⟩)
     | (rw [eqP_iff];exact ⟨λh=>(by cases h),λh=>absurd (hiff.1 h) (by rw [snocF_eq];exact λh=>e7 h.2.2.2.2.2.2.1)⟩)
   try simp only [df] at h60
   have e5:=Al_Int64_toInt_inj.1 (by omega:b0.toInt=b1.toInt);refine .gy (.fieldAddr Z Fx.field35_6)<|.gy (.load Z Fx.agg33 mem1 Z)<|.gy (.lenSl Fx.sl33 Z)<|.gy (.fieldAddr Z Fx.field35_6)<|.gy (.load Z Fx.agg33 Hm Z)<|.gy (.lenSl Fx.sl33 Z)<|.gy (.neq Z Z)<|.yw (.pickF Z Z)<|.mv Z<|.b2 (λh69=>?_) (λh69=>?_)
   ·try simp only [dt] at h69
    have e6:=(λe=>h69 (by rw [e]):¬ args0.length=args1.length);refine .gG<|.gG<|.gG<|.gG<|.gG<|.gG<|.yw (.pickT Z Z)<|.nt<|.cT Z<|.sr<|.az Z<|.tR<|.bR<|.tR<|.tR<|.bR<|.tR<|?_
    refine y9 Z Z λW s=>⟨retB ?_,s.ext⟩
    first
     | (rw [eqP_iff];exact ⟨λ_=>hall,λ_=>rfl⟩)
     | (rw [eqP_iff];exact ⟨λh=>(by cases h),λh=>absurd (hiff.1 h) (by rw [snocF_eq];exact λh=>e1 (h.2.1))⟩)
     | (rw [eqP_iff];exact ⟨λh=>(by cases h),λh=>absurd (hiff.1 h) (by rw [snocF_eq];exact λh=>e2 (h.2.2.1))⟩)
     | (rw [eqP_iff];exact ⟨λh=>(by cases h),λh=>absurd (hiff.1 h) (by rw [snocF_eq];exact λh=>e3 (h.2.2.2.1))⟩)
     | (rw [eqP_iff];exact ⟨λh=>(by cases h),λh=>absurd (hiff.1 h) (by rw [snocF_eq];exact λh=>e4 (h.2.2.2.2.1))⟩)
     | (rw [eqP_iff];exact ⟨λh=>(by cases h),λh=>absurd (hiff.1 h) (by rw [snocF_eq];exact λh=>e5 (h.2.2.2.2.2.1))⟩)
     | (rw [eqP_iff];exact ⟨λh=>(by cases h),λh=>absurd (hiff.1 h) (by rw [snocF_eq];exact λh=>e6 (by rw [h.2.2.2.2.2.2.2]))⟩)
     | (rw [eqP_iff];exact ⟨λh=>(by cases h),λh=>absurd (hiff.1 h) (by rw [snocF_eq];exact λh=>e7 h.2.2.2.2.2.2.1)⟩)
   try simp only [df] at h69
   have e6:=(by omega:args0.length=args1.length);refine .gy (.fieldAddr Z Fx.field35_5)<|.gy (.load Z Fx.agg32 mem1 Z)<|.gy (.fieldAddr Z Fx.field35_5)<|.gy (.load Z Fx.agg32 Hm Z)<|.gy (.call Fx.call51 Z (λW s=>eqFuncE H 52 Fx.call52 ex0 ex1 (λa _=>equalExpr_any H a) _ _ hs0 hs5 W s.agr))<|.gy (.not Z)<|.yw (.pickF Z Z)<|.nt<|.cd Z (λh76=>?_) (λh76=>?_)
   ·try simp only [dt] at h76
    have e7:=eqP_false.1 (by simpa using h76);refine .sr<|.az Z<|.tR<|.bR<|.tR<|.tR<|.bR<|.tR<|?_
    refine y9 Z Z λW s=>⟨retB ?_,s.ext⟩
    first
     | (rw [eqP_iff];exact ⟨λ_=>hall,λ_=>rfl⟩)
     | (rw [eqP_iff];exact ⟨λh=>(by cases h),λh=>absurd (hiff.1 h) (by rw [snocF_eq];exact λh=>e1 (h.2.1))⟩)
     | (rw [eqP_iff];exact ⟨λh=>(by cases h),λh=>absurd (hiff.1 h) (by rw [snocF_eq];exact λh=>e2 (h.2.2.1))⟩)
     | (rw [eqP_iff];exact ⟨λh=>(by cases h),λh=>absurd (hiff.1 h) (by rw [snocF_eq];exact λh=>e3 (h.2.2.2.1))⟩)
     | (rw [eqP_iff];exact ⟨λh=>(by cases h),λh=>absurd (hiff.1 h) (by rw [snocF_eq];exact λh=>e4 (h.2.2.2.2.1))⟩)
     | (rw [eqP_iff];exact ⟨λh=>(by cases h),λh=>absurd (hiff.1 h) (by rw [snocF_eq];exact λh=>e5 (h.2.2.2.2.2.1))⟩)
     | (rw [eqP_iff];exact ⟨λh=>(by cases h),λh=>absurd (hiff.1 h) (by rw [snocF_eq];exact λh=>e6 (by rw [h.2.2.2.2.2.2.2]))⟩)
     | (rw [eqP_iff];exact ⟨λh=>(by cases h),λh=>absurd (hiff.1 h) (by rw [snocF_eq];exact λh=>e7 h.2.2.2.2.2.2.1)⟩)
   try simp only [df] at h76
   have e7:=eqP_iff.1 (by simpa using h76);refine Sx.At.rcut (size:=7) (m:=fs0.length) (ys:=xf.take (fs0.length * 7)) upd2 (by rw [hl0];exact Nat.le_succ _) rfl ?_;refine Sx.At.rcut (size:=7) (m:=gs0.length) (ys:=xg.take (gs0.length * 7)) upd3 (by rw [hl1];exact Nat.le_succ _) rfl ?_;exact .sk<|.tN<|.fL 12 [(0,0),(1,0),(2,0),(3,0),(4,0),(6,0),(7,0),(8,0),(9,0),(10,0),(5,3),(11,3)]<|.mv Z<|.mv Z<|.yw (.cutHi Fx.sl33 Z Z (h:=fs0.length) (by rw [hl0];omega) (by rw [hl0] at hgc;omega) (λq e=>by cases e;rfl))<|.fA Z Fx.field35_6<|.lD Z Fx.agg33 mem1 Z<|.mv Z<|.mv Z<|.yw (.cutHi Fx.sl33 Z Z (h:=gs0.length) (by rw [hl0];omega) (by rw [hl1] at hgd;omega) (λq e=>by cases e;rfl))<|.fA Z Fx.field35_6<|.lD Z Fx.agg33 Hm Z<|.apD Fx.row33 Z (λ_ _=>upd2) Z hs3 (by simp only [maxLen];omega) (by omega) Z (λ_ _=>(.yv (.load Z Fx.agg33 Hm Z)<|.yv (.fieldAddr Z Fx.field35_6)<|.yv (.cutHi Fx.sl33 Z Z (h:=gs0.length) (by rw [hl0];omega) (by rw [hl1] at hgd;omega) (λq e=>by cases e;rfl))<|.yv (.move Z)<|.yv (.move Z)<|.d3<|.d2<|.nl)) λnews pN cN hzn=>.apD Fx.row33 Z (λ_ _=>upd3) Z hs6 (by simp only [maxLen];omega) (by omega) Z (λ_ _=>(.d4<|.d4<|.d2<|.nl)) λmews pM cM hzm=>.fn (tl:=[_,_]) Z<|.a Z Z<|.a Z Z<|.nl<|.bN<|.tN<|.rg<|.mv Z<|.yw (.lenSl Fx.sl33 Z)<|.yw (.sub Z Z (w6 (by omega)))<|.aq Z<|.ag (x:=(n,fs0++[Fm.mk op0 nm0 fd0 a0 b0 ex0 args0],gs0++[Fm.mk op1 nm1 fd1 a1 b1 ex1 args1],Value.slice (some ⟨wf,0,none⟩) (fs0++[Fm.mk op0 nm0 fd0 a0 b0 ex0 args0]).length cf,Value.slice (some ⟨wg,0,none⟩) (gs0++[Fm.mk op1 nm1 fd1 a1 b1 ex1 args1]).length cg,xf,xg)) (n+1,fs0++args0,gs0++args1,Value.slice pN (fs0.length+args0.length) cN,Value.slice pM (gs0.length+args1.length) cM,xf.take (fs0.length * 7)++news,xg.take (gs0.length * 7)++mews) ⟨Z,Z,by dsimp only;exact congrArg (λm:Nat=>some (Value.int .i64 ((m:Int) - 1))) (Al_List_length_append ).symm,Jt⟩ trivial (λ_ s=>by dsimp only;rw [Al_List_length_append,Al_List_length_append];exact (s.pick [2,3,4,5] _ Z Z)) ⟨by rw [Al_List_map_append];exact hz0.app hzn,by rw [Al_List_map_append];exact hz1.app hzm,by dsimp only;rw [Al_List_length_append,Al_List_length_append];omega,by dsimp only;rw [fm_counts_app];omega,λe he=>by rcases Al_List_mem_append.1 he with h | h;exact hbf e (Al_List_mem_append.2 (.inl h));exact hb0.2 e h,by dsimp only;rw [Al_List_length_append,hNs];omega,by dsimp only;exact hiff.trans (snocF_app e1 e2 e3 e4 e5 e6 e7 hle)⟩ (by dsimp only;rw [fm_counts_app,fm_counts_app,Fm.counts,Fm.counts,fm_count];omega)
  refine .al Fx.zero35 Z λb9=>.h1<|.al Fx.zero35 Z λb8=>.h1<|.sW .head Z Z Fx.size35 (by simp [Value.oneCell',strV]) Z ((.yv (.loadR (vs:=cFm .u8 op1 nm1 fd1 a1 b1 (.slice q5 ex1.length d5) (.slice q6 args1.length d6)) Z Fx.agg35 mem3 Z hx1)<|.yv (.indexSl Fx.sl33 Z Z (i:=gs0.length) (by rw [hl0];omega) (by rw [hl1];omega) (q:=gs0.length * 7) (by omega))<|.yv (.move Z)<|.yv (.move Z)<|.d4<|.nl))<|.fn (tl:=[_]) Z<|.sX upd1 Z Z Fx.size35 Z<|.nt<|.sq<|.sr<|.fA Z Fx.field35_0<|.lD Z Fx.agg31 Hm Z<|.fA Z Fx.field35_0<|.lD Z Fx.agg31 mem1 Z<|.yw (.neq Z Z)<|.mv Z<|.b2 (λh32=>?_) (λh32=>?_)
  ·try simp only [dt] at h32
   have e1:=(λe=>h32 (by rw [e]):¬ op0=op1);refine .gG<|.gG<|.gG<|.gG<|.gG<|.yw (.pickT Z Z)<|.mv Z<|.gG<|.gG<|.gG<|.gG<|.gG<|.yw (.pickT Z Z)<|.mv Z<|.gG<|.gG<|.gG<|.gG<|.gG<|.yw (.pickT Z Z)<|.mv Z<|.gG<|.gG<|.gG<|.gG<|.gG<|.yw (.pickT Z Z)<|.mv Z<|.gG<|.gG<|.gG<|.gG<|.gG<|.gG<|.gG<|.yw (.pickT Z Z)<|.mv Z<|.gG<|.gG<|.gG<|.gG<|.gG<|.gG<|.yw (.pickT Z Z)<|.nt<|.cT Z<|.sr<|.az Z<|.tR<|.bR<|.tR<|.tR<|.bR<|.tR<|?_
   refine y9 Z Z λW s=>⟨retB ?_,s.ext⟩
   first
    | (rw [eqP_iff];exact ⟨λ_=>hall,λ_=>rfl⟩)
    | (rw [eqP_iff];exact ⟨λh=>(by cases h),λh=>absurd (hiff.1 h) (by rw [snocF_eq];exact λh=>e1 (h.2.1))⟩)
    | (rw [eqP_iff];exact ⟨λh=>(by cases h),λh=>absurd (hiff.1 h) (by rw [snocF_eq];exact λh=>e2 (h.2.2.1))⟩)
    | (rw [eqP_iff];exact ⟨λh=>(by cases h),λh=>absurd (hiff.1 h) (by rw [snocF_eq];exact λh=>e3 (h.2.2.2.1))⟩)
    | (rw [eqP_iff];exact ⟨λh=>(by cases h),λh=>absurd (hiff.1 h) (by rw [snocF_eq];exact λh=>e4 (h.2.2.2.2.1))⟩)
    | (rw [eqP_iff];exact ⟨λh=>(by cases h),λh=>absurd (hiff.1 h) (by rw [snocF_eq];exact λh=>e5 (h.2.2.2.2.2.1))⟩)
    | (rw [eqP_iff];exact ⟨λh=>(by cases h),λh=>absurd (hiff.1 h) (by rw [snocF_eq];exact λh=>e6 (by rw [h.2.2.2.2.2.2.2]))⟩)
    | (rw [eqP_iff];exact ⟨λh=>(by cases h),λh=>absurd (hiff.1 h) (by rw [snocF_eq];exact λh=>e7 h.2.2.2.2.2.2.1)⟩)
  try simp only [df] at h32
  have e1:=Al_UInt8_toNat_inj.1 (by omega:op0.toNat=op1.toNat);refine .gy (.fieldAddr Z Fx.field35_1)<|.gy (.load Z Fx.agg9 Hm Z)<|.gy (.fieldAddr Z Fx.field35_1)<|.gy (.load Z Fx.agg9 mem1 Z)<|.gy (.neS Z Z)<|.yw (.pickF Z Z)<|.mv Z<|.b2 (λh39=>?_) (λh39=>?_)
  ·try simp only [dt] at h39
   have e2:=(id h39:¬ nm0=nm1);refine .gG<|.gG<|.gG<|.gG<|.gG<|.yw (.pickT Z Z)<|.mv Z<|.gG<|.gG<|.gG<|.gG<|.gG<|.yw (.pickT Z Z)<|.mv Z<|.gG<|.gG<|.gG<|.gG<|.gG<|.yw (.pickT Z Z)<|.mv Z<|.gG<|.gG<|.gG<|.gG<|.gG<|.gG<|.gG<|.yw (.pickT Z Z)<|.mv Z<|.gG<|.gG<|.gG<|.gG<|.gG<|.gG<|.yw (.pickT Z Z)<|.nt<|.cT Z<|.sr<|.az Z<|.tR<|.bR<|.tR<|.tR<|.bR<|.tR<|?_
   refine y9 Z Z λW s=>⟨retB ?_,s.ext⟩
   first
    | (rw [eqP_iff];exact ⟨λ_=>hall,λ_=>rfl⟩)
    | (rw [eqP_iff];exact ⟨λh=>(by cases h),λh=>absurd (hiff.1 h) (by rw [snocF_eq];exact λh=>e1 (h.2.1))⟩)
    | (rw [eqP_iff];exact ⟨λh=>(by cases h),λh=>absurd (hiff.1 h) (by rw [snocF_eq];exact λh=>e2 (h.2.2.1))⟩)
    | (rw [eqP_iff];exact ⟨λh=>(by cases h),λh=>absurd (hiff.1 h) (by rw [snocF_eq];exact λh=>e3 (h.2.2.2.1))⟩)
    | (rw [eqP_iff];exact ⟨λh=>(by cases h),λh=>absurd (hiff.1 h) (by rw [snocF_eq];exact λh=>e4 (h.2.2.2.2.1))⟩)
    | (rw [eqP_iff];exact ⟨λh=>(by cases h),λh=>absurd (hiff.1 h) (by rw [snocF_eq];exact λh=>e5 (h.2.2.2.2.2.1))⟩)
    | (rw [eqP_iff];exact ⟨λh=>(by cases h),λh=>absurd (hiff.1 h) (by rw [snocF_eq];exact λh=>e6 (by rw [h.2.2.2.2.2.2.2]))⟩)
    | (rw [eqP_iff];exact ⟨λh=>(by cases h),λh=>absurd (hiff.1 h) (by rw [snocF_eq];exact λh=>e7 h.2.2.2.2.2.2.1)⟩)
  try simp only [df] at h39
  have e2:=(Al_Classical_not_not.1 h39:nm0=nm1);refine .gy (.fieldAddr Z Fx.field35_2)<|.gy (.load Z Fx.agg9 Hm Z)<|.gy (.fieldAddr Z Fx.field35_2)<|.gy (.load Z Fx.agg9 mem1 Z)<|.gy (.neS Z Z)<|.yw (.pickF Z Z)<|.mv Z<|.b2 (λh46=>?_) (λh46=>?_)
  ·try simp only [dt] at h46
   have e3:=(id h46:¬ fd0=fd1);refine .gG<|.gG<|.gG<|.gG<|.gG<|.yw (.pickT Z Z)<|.mv Z<|.gG<|.gG<|.gG<|.gG<|.gG<|.yw (.pickT Z Z)<|.mv Z<|.gG<|.gG<|.gG<|.gG<|.gG<|.gG<|.gG<|.yw (.pickT Z Z)<|.mv Z<|.gG<|.gG<|.gG<|.gG<|.gG<|.gG<|.yw (.pickT Z Z)<|.nt<|.cT Z<|.sr<|.az Z<|.tR<|.bR<|.tR<|.tR<|.bR<|.tR<|?_
   refine y9 Z Z λW s=>⟨retB ?_,s.ext⟩
   first
    | (rw [eqP_iff];exact ⟨λ_=>hall,λ_=>rfl⟩)
    | (rw [eqP_iff];exact ⟨λh=>(by cases h),λh=>absurd (hiff.1 h) (by rw [snocF_eq];exact λh=>e1 (h.2.1))⟩)
    | (rw [eqP_iff];exact ⟨λh=>(by cases h),λh=>absurd (hiff.1 h) (by rw [snocF_eq];exact λh=>e2 (h.2.2.1))⟩)
    | (rw [eqP_iff];exact ⟨λh=>(by cases h),λh=>absurd (hiff.1 h) (by rw [snocF_eq];exact λh=>e3 (h.2.2.2.1))⟩)
    | (rw [eqP_iff];exact ⟨λh=>(by cases h),λh=>absurd (hiff.1 h) (by rw [snocF_eq];exact λh=>e4 (h.2.2.2.2.1))⟩)
    | (rw [eqP_iff];exact ⟨λh=>(by cases h),λh=>absurd (hiff.1 h) (by rw [snocF_eq];exact λh=>e5 (h.2.2.2.2.2.1))⟩)
    | (rw [eqP_iff];exact ⟨λh=>(by cases h),λh=>absurd (hiff.1 h) (by rw [snocF_eq];exact λh=>e6 (by rw [h.2.2.2.2.2.2.2]))⟩)
    | (rw [eqP_iff];exact ⟨λh=>(by cases h),λh=>absurd (hiff.1 h) (by rw [snocF_eq];exact λh=>e7 h.2.2.2.2.2.2.1)⟩)
  try simp only [df] at h46
  have e3:=(Al_Classical_not_not.1 h46:fd0=fd1);refine .gy (.fieldAddr Z Fx.field35_3)<|.gy (.load Z Fx.agg3 Hm Z)<|.gy (.fieldAddr Z Fx.field35_3)<|.gy (.load Z Fx.agg3 mem1 Z)<|.gy (.neq Z Z)<|.yw (.pickF Z Z)<|.mv Z<|.b2 (λh53=>?_) (λh53=>?_)
  ·try simp only [dt] at h53
   have e4:=(λe=>h53 (by rw [e]):¬ a0=a1);refine .gG<|.gG<|.gG<|.gG<|.gG<|.yw (.pickT Z Z)<|.mv Z<|.gG<|.gG<|.gG<|.gG<|.gG<|.gG<|.gG<|.yw (.pickT Z Z)<|.mv Z<|.gG<|.gG<|.gG<|.gG<|.gG<|.gG<|.yw (.pickT Z Z)<|.nt<|.cT Z<|.sr<|.az Z<|.tR<|.bR<|.tR<|.tR<|.bR<|.tR<|?_
   refine y9 Z Z λW s=>⟨retB ?_,s.ext⟩
   first
    | (rw [eqP_iff];exact ⟨λ_=>hall,λ_=>rfl⟩)
    | (rw [eqP_iff];exact ⟨λh=>(by cases h),λh=>absurd (hiff.1 h) (by rw [snocF_eq];exact λh=>e1 (h.2.1))⟩)
    | (rw [eqP_iff];exact ⟨λh=>(by cases h),λh=>absurd (hiff.1 h) (by rw [snocF_eq];exact λh=>e2 (h.2.2.1))⟩)
    | (rw [eqP_iff];exact ⟨λh=>(by cases h),λh=>absurd (hiff.1 h) (by rw [snocF_eq];exact λh=>e3 (h.2.2.2.1))⟩)
    | (rw [eqP_iff];exact ⟨λh=>(by cases h),λh=>absurd (hiff.1 h) (by rw [snocF_eq];exact λh=>e4 (h.2.2.2.2.1))⟩)
    | (rw [eqP_iff];exact ⟨λh=>(by cases h),λh=>absurd (hiff.1 h) (by rw [snocF_eq];exact λh=>e5 (h.2.2.2.2.2.1))⟩)
    | (rw [eqP_iff];exact ⟨λh=>(by cases h),λh=>absurd (hiff.1 h) (by rw [snocF_eq];exact λh=>e6 (by rw [h.2.2.2.2.2.2.2]))⟩)
    | (rw [eqP_iff];exact ⟨λh=>(by cases h),λh=>absurd (hiff.1 h) (by rw [snocF_eq];exact λh=>e7 h.2.2.2.2.2.2.1)⟩)
  try simp only [df] at h53
  have e4:=Al_Int64_toInt_inj.1 (by omega:a0.toInt=a1.toInt);refine .gy (.fieldAddr Z Fx.field35_4)<|.gy (.load Z Fx.agg3 Hm Z)<|.gy (.fieldAddr Z Fx.field35_4)<|.gy (.load Z Fx.agg3 mem1 Z)<|.gy (.neq Z Z)<|.yw (.pickF Z Z)<|.mv Z<|.b2 (λh60=>?_) (λh60=>?_)
  ·try simp only [dt] at h60
   have e5:=(λe=>h60 (by rw [e]):¬ b0=b1);refine .gG<|.gG<|.gG<|.gG<|.gG<|.gG<|.gG<|.yw (.pickT Z Z)<|.mv Z<|.gG<|.gG<|.gG<|.gG<|.gG<|.gG<|.yw (.pickT Z Z)<|.nt<|.cT Z<|.sr<|.az Z<|.tR<|.bR<|.tR<|.tR<|.bR<|.tR<|?_
   refine y9 Z Z λW s=>⟨retB ?_,s.ext⟩
   first
    | (rw [eqP_iff];exact ⟨λ_=>hall,λ_=>rfl⟩)
    | (rw [eqP_iff];exact ⟨λh=>(by cases h),λh=>absurd (hiff.1 h) (by rw [snocF_eq];exact λh=>e1 (h.2.1))⟩)
    | (rw [eqP_iff];exact ⟨λh=>(by cases h),λh=>absurd (hiff.1 h) (by rw [snocF_eq];exact λh=>e2 (h.2.2.1))⟩)
    | (rw [eqP_iff];exact ⟨λh=>(by cases h),λh=>absurd (hiff.1 h) (by rw [snocF_eq];exact λh=>e3 (h.2.2.2.1))⟩)
    | (rw [eqP_iff];exact ⟨λh=>(by cases h),λh=>absurd (hiff.1 h) (by rw [snocF_eq];exact λh=>e4 (h.2.2.2.2.1))⟩)
    | (rw [eqP_iff];exact ⟨λh=>(by cases h),λh=>absurd (hiff.1 h) (by rw [snocF_eq];exact λh=>e5 (h.2.2.2.2.2.1))⟩)
    | (rw [eqP_iff];exact ⟨λh=>(by cases h),λh=>absurd (hiff.1 h) (by rw [snocF_eq];exact λh=>e6 (by rw [h.2.2.2.2.2.2.2]))⟩)
    | (rw [eqP_iff];exact ⟨λh=>(by cases h),λh=>absurd (hiff.1 h) (by rw [snocF_eq];exact λh=>e7 h.2.2.2.2.2.2.1)⟩)
  try simp only [df] at h60
  have e5:=Al_Int64_toInt_inj.1 (by omega:b0.toInt=b1.toInt);refine .gy (.fieldAddr Z Fx.field35_6)<|.gy (.load Z Fx.agg33 Hm Z)<|.gy (.lenSl Fx.sl33 Z)<|.gy (.fieldAddr Z Fx.field35_6)<|.gy (.load Z Fx.agg33 mem1 Z)<|.gy (.lenSl Fx.sl33 Z)<|.gy (.neq Z Z)<|.yw (.pickF Z Z)<|.mv Z<|.b2 (λh69=>?_) (λh69=>?_)
  ·try simp only [dt] at h69
   have e6:=(λe=>h69 (by rw [e]):¬ args0.length=args1.length);refine .gG<|.gG<|.gG<|.gG<|.gG<|.gG<|.yw (.pickT Z Z)<|.nt<|.cT Z<|.sr<|.az Z<|.tR<|.bR<|.tR<|.tR<|.bR<|.tR<|?_
   refine y9 Z Z λW s=>⟨retB ?_,s.ext⟩
   first
    | (rw [eqP_iff];exact ⟨λ_=>hall,λ_=>rfl⟩)
    | (rw [eqP_iff];exact ⟨λh=>(by cases h),λh=>absurd (hiff.1 h) (by rw [snocF_eq];exact λh=>e1 (h.2.1))⟩)
    | (rw [eqP_iff];exact ⟨λh=>(by cases h),λh=>absurd (hiff.1 h) (by rw [snocF_eq];exact λh=>e2 (h.2.2.1))⟩)
    | (rw [eqP_iff];exact ⟨λh=>(by cases h),λh=>absurd (hiff.1 h) (by rw [snocF_eq];exact λh=>e3 (h.2.2.2.1))⟩)
    | (rw [eqP_iff];exact ⟨λh=>(by cases h),λh=>absurd (hiff.1 h) (by rw [snocF_eq];exact λh=>e4 (h.2.2.2.2.1))⟩)
    | (rw [eqP_iff];exact ⟨λh=>(by cases h),λh=>absurd (hiff.1 h) (by rw [snocF_eq];exact λh=>e5 (h.2.2.2.2.2.1))⟩)
    | (rw [eqP_iff];exact ⟨λh=>(by cases h),λh=>absurd (hiff.1 h) (by rw [snocF_eq];exact λh=>e6 (by rw [h.2.2.2.2.2.2.2]))⟩)
    | (rw [eqP_iff];exact ⟨λh=>(by cases h),λh=>absurd (hiff.1 h) (by rw [snocF_eq];exact λh=>e7 h.2.2.2.2.2.2.1)⟩)
  try simp only [df] at h69
  have e6:=(by omega:args0.length=args1.length);refine .gy (.fieldAddr Z Fx.field35_5)<|.gy (.load Z Fx.agg32 Hm Z)<|.gy (.fieldAddr Z Fx.field35_5)<|.gy (.load Z Fx.agg32 mem1 Z)<|.gy (.call Fx.call51 Z (λW s=>eqFuncE H 52 Fx.call52 ex0 ex1 (λa _=>equalExpr_any H a) _ _ hs0 hs5 W s.agr))<|.gy (.not Z)<|.yw (.pickF Z Z)<|.nt<|.cd Z (λh76=>?_) (λh76=>?_)
  ·try simp only [dt] at h76
   have e7:=eqP_false.1 (by simpa using h76);refine .sr<|.az Z<|.tR<|.bR<|.tR<|.tR<|.bR<|.tR<|?_
   refine y9 Z Z λW s=>⟨retB ?_,s.ext⟩
   first
    | (rw [eqP_iff];exact ⟨λ_=>hall,λ_=>rfl⟩)
    | (rw [eqP_iff];exact ⟨λh=>(by cases h),λh=>absurd (hiff.1 h) (by rw [snocF_eq];exact λh=>e1 (h.2.1))⟩)
    | (rw [eqP_iff];exact ⟨λh=>(by cases h),λh=>absurd (hiff.1 h) (by rw [snocF_eq];exact λh=>e2 (h.2.2.1))⟩)
    | (rw [eqP_iff];exact ⟨λh=>(by cases h),λh=>absurd (hiff.1 h) (by rw [snocF_eq];exact λh=>e3 (h.2.2.2.1))⟩)
    | (rw [eqP_iff];exact ⟨λh=>(by cases h),λh=>absurd (hiff.1 h) (by rw [snocF_eq];exact λh=>e4 (h.2.2.2.2.1))⟩)
    | (rw [eqP_iff];exact ⟨λh=>(by cases h),λh=>absurd (hiff.1 h) (by rw [snocF_eq];exact λh=>e5 (h.2.2.2.2.2.1))⟩)
    | (rw [eqP_iff];exact ⟨λh=>(by cases h),λh=>absurd (hiff.1 h) (by rw [snocF_eq];exact λh=>e6 (by rw [h.2.2.2.2.2.2.2]))⟩)
    | (rw [eqP_iff];exact ⟨λh=>(by cases h),λh=>absurd (hiff.1 h) (by rw [snocF_eq];exact λh=>e7 h.2.2.2.2.2.2.1)⟩)
  try simp only [df] at h76
  have e7:=eqP_iff.1 (by simpa using h76);refine Sx.At.rcut (size:=7) (m:=fs0.length) (ys:=xf.take (fs0.length * 7)) upd2 (by rw [hl0];exact Nat.le_succ _) rfl ?_;refine Sx.At.rcut (size:=7) (m:=gs0.length) (ys:=xg.take (gs0.length * 7)) upd3 (by rw [hl1];exact Nat.le_succ _) rfl ?_;exact .sk<|.tN<|.fL 12 [(0,0),(1,0),(2,0),(3,0),(4,0),(6,0),(7,0),(8,0),(9,0),(10,0),(5,3),(11,3)]<|.mv Z<|.mv Z<|.yw (.cutHi Fx.sl33 Z Z (h:=fs0.length) (by rw [hl0];omega) (by rw [hl0] at hgc;omega) (λq e=>by cases e;rfl))<|.fA Z Fx.field35_6<|.lD Z Fx.agg33 Hm Z<|.mv Z<|.mv Z<|.yw (.cutHi Fx.sl33 Z Z (h:=gs0.length) (by rw [hl0];omega) (by rw [hl1] at hgd;omega) (λq e=>by cases e;rfl))<|.fA Z Fx.field35_6<|.lD Z Fx.agg33 mem1 Z<|.apD Fx.row33 Z (λ_ _=>upd2) Z hs3 (by simp only [maxLen];omega) (by omega) Z (λ_ _=>(.yv (.load Z Fx.agg33 mem1 Z)<|.yv (.fieldAddr Z Fx.field35_6)<|.yv (.cutHi Fx.sl33 Z Z (h:=gs0.length) (by rw [hl0];omega) (by rw [hl1] at hgd;omega) (λq e=>by cases e;rfl))<|.yv (.move Z)<|.yv (.move Z)<|.d3<|.d2<|.nl)) λnews pN cN hzn=>.apD Fx.row33 Z (λ_ _=>upd3) Z hs6 (by simp only [maxLen];omega) (by omega) Z (λ_ _=>(.d4<|.d4<|.d2<|.nl)) λmews pM cM hzm=>.fn (tl:=[_,_]) Z<|.a Z Z<|.a Z Z<|.nl<|.bN<|.tN<|.rg<|.mv Z<|.yw (.lenSl Fx.sl33 Z)<|.yw (.sub Z Z (w6 (by omega)))<|.aq Z<|.ag (x:=(n,fs0++[Fm.mk op0 nm0 fd0 a0 b0 ex0 args0],gs0++[Fm.mk op1 nm1 fd1 a1 b1 ex1 args1],Value.slice (some ⟨wf,0,none⟩) (fs0++[Fm.mk op0 nm0 fd0 a0 b0 ex0 args0]).length cf,Value.slice (some ⟨wg,0,none⟩) (gs0++[Fm.mk op1 nm1 fd1 a1 b1 ex1 args1]).length cg,xf,xg)) (n+1,fs0++args0,gs0++args1,Value.slice pN (fs0.length+args0.length) cN,Value.slice pM (gs0.length+args1.length) cM,xf.take (fs0.length * 7)++news,xg.take (gs0.length * 7)++mews) ⟨Z,Z,by dsimp only;exact congrArg (λm:Nat=>some (Value.int .i64 ((m:Int) - 1))) (Al_List_length_append ).symm,Jt⟩ trivial (λ_ s=>by dsimp only;rw [Al_List_length_append,Al_List_length_append];exact (s.pick [2,3,4,5] _ Z Z)) ⟨by rw [Al_List_map_append];exact hz0.app hzn,by rw [Al_List_map_append];exact hz1.app hzm,by dsimp only;rw [Al_List_length_append,Al_List_length_append];omega,by dsimp only;rw [fm_counts_app];omega,λe he=>by rcases Al_List_mem_append.1 he with h | h;exact hbf e (Al_List_mem_append.2 (.inl h));exact hb0.2 e h,by dsimp only;rw [Al_List_length_append,hNs];omega,by dsimp only;exact hiff.trans (snocF_app e1 e2 e3 e4 e5 e6 e7 hle)⟩ (by dsimp only;rw [fm_counts_app,fm_counts_app,Fm.counts,Fm.counts,fm_count];omega)
 try simp only [df] at h15
 have hfs:fs=[]:=Al_List_eq_nil_of_length_eq_zero (by omega);have hgs:gs=[]:=Al_List_eq_nil_of_length_eq_zero (by omega);have hall:=hiff.2 (by rw [hfs,hgs]);refine .ex<|.eb<|.sr<|.az Z<|?_
 refine y9 Z Z λW s=>⟨retB ?_,s.ext⟩
 first
  | (rw [eqP_iff];exact ⟨λ_=>hall,λ_=>rfl⟩)
  | (rw [eqP_iff];exact ⟨λh=>(by cases h),λh=>absurd (hiff.1 h) (by rw [snocF_eq];exact λh=>e1 (h.2.1))⟩)
  | (rw [eqP_iff];exact ⟨λh=>(by cases h),λh=>absurd (hiff.1 h) (by rw [snocF_eq];exact λh=>e2 (h.2.2.1))⟩)
  | (rw [eqP_iff];exact ⟨λh=>(by cases h),λh=>absurd (hiff.1 h) (by rw [snocF_eq];exact λh=>e3 (h.2.2.2.1))⟩)
  | (rw [eqP_iff];exact ⟨λh=>(by cases h),λh=>absurd (hiff.1 h) (by rw [snocF_eq];exact λh=>e4 (h.2.2.2.2.1))⟩)
  | (rw [eqP_iff];exact ⟨λh=>(by cases h),λh=>absurd (hiff.1 h) (by rw [snocF_eq];exact λh=>e5 (h.2.2.2.2.2.1))⟩)
  | (rw [eqP_iff];exact ⟨λh=>(by cases h),λh=>absurd (hiff.1 h) (by rw [snocF_eq];exact λh=>e6 (by rw [h.2.2.2.2.2.2.2]))⟩)
  | (rw [eqP_iff];exact ⟨λh=>(by cases h),λh=>absurd (hiff.1 h) (by rw [snocF_eq];exact λh=>e7 h.2.2.2.2.2.2.1)⟩)
theorem tmTs_map:∀ l,tmTs l=l.map λe=>(e.op,tmT e)
 | []=>by rw [tmTs];rfl
 | e::r=>by rw [tmTs,tmTs_map r];rfl
theorem fmTs_map:∀ l,fmTs l=l.map λf=>(f.op,fmT f)
 | []=>by rw [fmTs];rfl
 | e::r=>by rw [fmTs,fmTs_map r];rfl
theorem tm_mk {op:UInt8} {nm:Str} {n:Int64} {args:List Ex} :tmT (.mk op nm n args)=tmOp op nm n (args.map λe=>(e.op,tmT e)):=by rw [tmT,tmTs_map]
theorem fm_mk {op:UInt8} {nm fd:Str} {a b:Int64} {ex:List Ex} {args:List Fm} :fmT (.mk op nm fd a b ex args)=fmOp (.mk op nm fd a b ex args) (args.map λf=>(f.op,fmT f)):=by rw [fmT,fmTs_map]
theorem hd0 {α β:Type} {f:α->β} {l:List α} {d:β} (h:0<l.length):(l.map f).headD d=f l[0]:=by
 cases l with
 | nil=>exact absurd h (Nat.lt_irrefl _)
 | cons a r=>rfl
theorem hd1 {α β:Type} {f:α->β} {l:List α} {d:β} (h:1<l.length):((l.map f).drop 1).headD d=f l[1]:=by
 match l,h with
 | _::b::r,_=>rfl
theorem tlv4 {op:UInt8} (h:op=14\/op=15):tlv op=4:=by unfold tlv;rw [Al_if_pos h]
theorem tlv5 {op:UInt8} (h:op=11\/op=12\/op=13):tlv op=5:=by unfold tlv;rw [Al_if_neg (by rcases h with rfl | rfl | rfl <;> decide),Al_if_pos h]
theorem tlv6 {op:UInt8} (h:op=9):tlv op=6:=by subst h;rfl
theorem tlv7 {op:UInt8} (h1:¬ op=14) (h2:¬ op=15) (h3:¬ op=11) (h4:¬ op=12) (h5:¬ op=13) (h6:¬ op=9):tlv op=7:=by
 unfold tlv;rw [Al_if_neg (by rintro (h | h);exact h1 h;exact h2 h),Al_if_neg (by rintro (h | h | h);exact h3 h;exact h4 h;exact h5 h),Al_if_neg h6]
theorem tlv_le (op:UInt8):tlv op<=7:=by
 unfold tlv
 repeat' split
 all_goals omega
section
variable {op:UInt8} {nm:Str} {n:Int64} {args:List Ex}
theorem tm1 (h:op=1):tmT (.mk op nm n args)=Lib.itoa n.toInt:=by rw [tm_mk];subst h;rfl
theorem tm4 (h:op=4):tmT (.mk op nm n args)=[110,111,119]:=by rw [tm_mk];subst h;rfl
theorem tm5 (h:op=5):tmT (.mk op nm n args)=nm:=by rw [tm_mk];subst h;rfl
theorem tm6 (h:op=6) (h0:0<args.length):tmT (.mk op nm n args)=(nm++([91]:Str)++tmT args[0]++([93]:Str):Str):=by
 rw [tm_mk];subst h;show (nm++([91]:Str)++_++([93]:Str):Str)=_;rw [hd0 h0]
theorem tm8 (h:op=8):tmT (.mk op nm n args)=(([115,105,122,101,32]:Str)++nm):=by rw [tm_mk];subst h;rfl
theorem tm9 (h:op=9) (h0:0<args.length):tmT (.mk op nm n args)=(([45]:Str)++prnT (decide (tlv args[0].op<6)) (tmT args[0]):Str):=by
 rw [tm_mk];subst h;show (([45]:Str)++prnT _ _:Str)=_;rw [hd0 h0]
theorem tmb (h:op=11\/op=12\/op=13\/op=14\/op=15) (h0:0<args.length) (h1:1<args.length):tmT (.mk op nm n args)=(prnT (decide (tlv args[0].op<tlv op)) (tmT args[0])++([32]:Str)++symT op++([32]:Str)++prnT (decide (tlv args[1].op<tlv op+1)) (tmT args[1]):Str):=by
 rw [tm_mk];unfold tmOp;rw [hd0 h0,hd1 h1];rcases h with rfl | rfl | rfl | rfl | rfl <;> rfl
theorem tmn (h1:¬ op=1) (h4:¬ op=4) (h5:¬ op=5) (h6:¬ op=6) (h8:¬ op=8) (h9:¬ op=9) (hb:¬ (op=11\/op=12\/op=13\/op=14\/op=15)):tmT (.mk op nm n args)=[95]:=by
 rw [tm_mk];unfold tmOp;rw [Al_if_neg h1,Al_if_neg h4,Al_if_neg h5,Al_if_neg h6,Al_if_neg h8,Al_if_neg h9,Al_if_neg hb]
end
theorem prnT_len (b:Bool) (s:Str):s.length<=(prnT b s).length/\(prnT b s).length<=s.length+2:=by
 unfold prnT;cases b
 ·rw [Al_if_neg (by decide)];omega
 ·rw [Al_if_pos rfl];simp only [Al_List_length_append,Al_List_length_cons,Al_List_length_nil];omega
variable {m:Nat}
theorem tab_len {l:List Str} (h:∀ x∈l,x.length<=m) (i:Nat):(l.getD i []).length<=m:=by
 rw [List.getD_eq_getElem?_getD];cases e:l[i]? with
 | none=>exact Al_Nat_zero_le _
 | some x=>exact h x (Al_List_mem_of_getElem? e)
theorem symT_len (op:UInt8):(symT op).length<=2:=tab_len (l:=fsyms) (by decide) _
theorem wordF_len (op:UInt8):(wordF op).length<=8:=tab_len (l:=fwords) (by decide) _
theorem term_args1 {op:UInt8} {nm:Str} {n:Int64} {args:List Ex} (h:op=6\/op=9) (hT:termB (.mk op nm n args)=true):args.length=1/\∀ a∈args,termB a=true:=by
 rw [term_rec,Al_Bool_and_eq_true,Al_List_all_eq_true] at hT;refine ⟨?_,hT.2⟩;have h1:=hT.1;unfold trmB at h1;simp only [Al_Bool_and_eq_true,Al_decide_eq_true_eq] at h1;have h2:=h1.1.1.1.2;rcases h with rfl | rfl
 ·exact Int.ofNat_inj.1 (h2.symm.trans (by decide))
 ·exact Int.ofNat_inj.1 (h2.symm.trans (by decide))
theorem term_args2 {op:UInt8} {nm:Str} {n:Int64} {args:List Ex} (h:op=11\/op=12\/op=13\/op=14\/op=15) (hT:termB (.mk op nm n args)=true):args.length=2/\∀ a∈args,termB a=true:=by
 rw [term_rec,Al_Bool_and_eq_true,Al_List_all_eq_true] at hT;refine ⟨?_,hT.2⟩;have h1:=hT.1;unfold trmB at h1;simp only [Al_Bool_and_eq_true,Al_decide_eq_true_eq] at h1;have h2:=h1.1.1.1.2;rcases h with rfl | rfl | rfl | rfl | rfl <;> exact Int.ofNat_inj.1 (h2.symm.trans (by decide))
def nlE (e:Ex):Bool:=Ex.all (λe=>decide (e.nm.length<=1000000)) e
theorem tmT_len (e:Ex) (hn:nlE e=true):(tmT e).length<=1000100 * e.count:=by
 induction e using Ex.ind with | _ op nm n args ih
 unfold nlE at hn;rw [all_mk,alls_allE,Al_Bool_and_eq_true,Al_decide_eq_true_eq,Al_List_all_eq_true] at hn;obtain ⟨hn,ha⟩:=hn;have hn':nm.length<=1000000:=hn
 have hx:∀ (l:List (UInt8 × Str)),l=args.map (λe=>(e.op,tmT e))->(l.headD (0,[])).2.length+((l.drop 1).headD (0,[])).2.length<=1000100 * Ex.counts args:=by
  rintro l rfl
  match args,ih,ha with
  | [],_,_=>exact Al_Nat_zero_le _
  | [a],ih,ha =>
   have:=ih a (Al_List_mem_cons_self ..) (ha a (Al_List_mem_cons_self ..));rw [Ex.counts,Ex.counts];show (tmT a).length+0<=_;omega
  | a::b::r,ih,ha =>
   have h1:=ih a (Al_List_mem_cons_self ..) (ha a (Al_List_mem_cons_self ..));have h2:=ih b (Al_List_mem_cons_of_mem _ (Al_List_mem_cons_self ..)) (ha b (Al_List_mem_cons_of_mem _ (Al_List_mem_cons_self ..)));rw [Ex.counts,Ex.counts];show (tmT a).length+(tmT b).length<=_;omega
 have hx:=hx _ rfl;rw [ex_count,tm_mk];unfold tmOp;generalize args.map (λe=>(e.op,tmT e))=l at hx|-;have hi:=itoa_len n;have p1:=(prnT_len (decide (tlv (l.headD (0,[])).1<6)) (l.headD (0,[])).2).2;have p2:=(prnT_len (decide (tlv (l.headD (0,[])).1<tlv op)) (l.headD (0,[])).2).2;have p3:=(prnT_len (decide (tlv ((l.drop 1).headD (0,[])).1<tlv op+1)) ((l.drop 1).headD (0,[])).2).2;have p4:=symT_len op;generalize Ex.counts args=C at hx|-
 repeat' split
 all_goals (try simp only [Al_List_length_append,Al_List_length_cons,Al_List_length_nil]);omega
def Gq (H:Hp):Prop:=∀ W,Agr H W->Lib.TabIs prg W "internal/strconv.uint64pow10" .u64 Lib.pow10Tab
variable {H H':Hp}
theorem Gq.up (g:Gq H) (u:Up H H'):Gq H':=λW a=>g W ⟨λb o e=>a b o (u b o e),u.lo ▸ a.lo⟩
theorem ext_grow {w:World} (os:Array Obj):Ext w (Sort.grow w os) :=
 Ext.of_below ⟨Z,Z,Z,by simp [Sort.grow],λk hk=>by simp [Sort.grow,Array.getElem?_append,hk]⟩
theorem formatInt_any (H:Hp) (g:Gq H) (n:Int64) (w:World) (hA:Agr H w):Calls prg 138 #[.int .i64 n.toInt,.int .i64 10] w λr w'=>r=.returned (strV (Lib.itoa n.toInt))/\Ext w w' :=
 (Tryz.strconv_FormatInt_10 n.toInt (by have:=n.le_toInt;omega) (by have:=n.toInt_lt;omega) w (g w hA)).mono λ_ _ ⟨he,k,os,hw⟩=>⟨he,hw ▸ ((Ext.refl w).drewN k).trans (ext_grow os)⟩
theorem itoa_any (H:Hp) (g:Gq H) (n:Int64) (w:World) (hA:Agr H w):Calls prg 144 #[.int .i64 n.toInt] w λr w'=>r=.returned (strV (Lib.itoa n.toInt))/\Ext w w' :=
 (Tryz.strconv_Itoa n.toInt (by have:=n.le_toInt;omega) (by have:=n.toInt_lt;omega) w (g w hA)).mono λ_ _ ⟨he,k,os,hw⟩=>⟨he,hw ▸ ((Ext.refl w).drewN k).trans (ext_grow os)⟩
theorem tlv_any (H:Hp) (op:UInt8) (w:World) (hA:Agr H w):Calls prg 140 #[.int .u8 op.toNat] w λr w'=>r=.returned (iN (tlv op))/\Ext w w':=by
 refine Sx.enter (H:=H) func140 rfl ntmps140 rfl hA ?_;refine .sr<|.aq Z<|.sq<|.sm Z<|.nt<|.bk<|.sq<|.sr<|.yw (.eql Z Z)<|.aq Z<|.cr Z (λh4=>?_) (λh4=>?_)
 ·have qa:op=14:=Al_UInt8_toNat_inj.1 (by have:=Al_of_decide_eq_true h4;show op.toNat=14;omega);refine .sk<|.tN<|.cT Z<|.sr<|.az Z<|.bR<|.tR<|?_
  refine y9 Z Z λW s=>⟨?_,s.ext⟩
  first
   | (rw [tlv4 (.inl qa)];rfl)
   | (rw [tlv4 (.inr qa)];rfl)
   | (rw [tlv5 (.inl qb)];rfl)
   | (rw [tlv5 (.inr (.inl qb))];rfl)
   | (rw [tlv5 (.inr (.inr qb))];rfl)
   | (rw [tlv6 q9];rfl)
   | (rw [tlv7 qa14 qa15 qb11 qb12 qb13 q9];rfl)
 have qa14:¬ op=14:=λe=>Al_of_decide_eq_false h4 (by rw [e];rfl);refine .rg<|.yw (.eql Z Z)<|.aq Z<|.cr Z (λh4=>?_) (λh4=>?_)
 ·have qa:op=15:=Al_UInt8_toNat_inj.1 (by have:=Al_of_decide_eq_true h4;show op.toNat=15;omega);refine .sr<|.az Z<|.bR<|.tR<|?_
  refine y9 Z Z λW s=>⟨?_,s.ext⟩
  first
   | (rw [tlv4 (.inl qa)];rfl)
   | (rw [tlv4 (.inr qa)];rfl)
   | (rw [tlv5 (.inl qb)];rfl)
   | (rw [tlv5 (.inr (.inl qb))];rfl)
   | (rw [tlv5 (.inr (.inr qb))];rfl)
   | (rw [tlv6 q9];rfl)
   | (rw [tlv7 qa14 qa15 qb11 qb12 qb13 q9];rfl)
 have qa15:¬ op=15:=λe=>Al_of_decide_eq_false h4 (by rw [e];rfl);refine .sq<|.sr<|.yw (.eql Z Z)<|.aq Z<|.cr Z (λh7=>?_) (λh7=>?_)
 ·have qb:op=11:=Al_UInt8_toNat_inj.1 (by have:=Al_of_decide_eq_true h7;show op.toNat=11;omega);refine .sk<|.tN<|.cT Z<|.sr<|.az Z<|.bR<|.tR<|?_
  refine y9 Z Z λW s=>⟨?_,s.ext⟩
  first
   | (rw [tlv4 (.inl qa)];rfl)
   | (rw [tlv4 (.inr qa)];rfl)
   | (rw [tlv5 (.inl qb)];rfl)
   | (rw [tlv5 (.inr (.inl qb))];rfl)
   | (rw [tlv5 (.inr (.inr qb))];rfl)
   | (rw [tlv6 q9];rfl)
   | (rw [tlv7 qa14 qa15 qb11 qb12 qb13 q9];rfl)
 have qb11:¬ op=11:=λe=>Al_of_decide_eq_false h7 (by rw [e];rfl);refine .sr<|.yw (.eql Z Z)<|.aq Z<|.cr Z (λh7=>?_) (λh7=>?_)
 ·have qb:op=12:=Al_UInt8_toNat_inj.1 (by have:=Al_of_decide_eq_true h7;show op.toNat=12;omega);refine .sk<|.tN<|.cT Z<|.sr<|.az Z<|.bR<|.tR<|?_
  refine y9 Z Z λW s=>⟨?_,s.ext⟩
  first
   | (rw [tlv4 (.inl qa)];rfl)
   | (rw [tlv4 (.inr qa)];rfl)
   | (rw [tlv5 (.inl qb)];rfl)
   | (rw [tlv5 (.inr (.inl qb))];rfl)
   | (rw [tlv5 (.inr (.inr qb))];rfl)
   | (rw [tlv6 q9];rfl)
   | (rw [tlv7 qa14 qa15 qb11 qb12 qb13 q9];rfl)
 have qb12:¬ op=12:=λe=>Al_of_decide_eq_false h7 (by rw [e];rfl);refine .rg<|.yw (.eql Z Z)<|.aq Z<|.cr Z (λh7=>?_) (λh7=>?_)
 ·have qb:op=13:=Al_UInt8_toNat_inj.1 (by have:=Al_of_decide_eq_true h7;show op.toNat=13;omega);refine .sr<|.az Z<|.bR<|.tR<|?_
  refine y9 Z Z λW s=>⟨?_,s.ext⟩
  first
   | (rw [tlv4 (.inl qa)];rfl)
   | (rw [tlv4 (.inr qa)];rfl)
   | (rw [tlv5 (.inl qb)];rfl)
   | (rw [tlv5 (.inr (.inl qb))];rfl)
   | (rw [tlv5 (.inr (.inr qb))];rfl)
   | (rw [tlv6 q9];rfl)
   | (rw [tlv7 qa14 qa15 qb11 qb12 qb13 q9];rfl)
 have qb13:¬ op=13:=λe=>Al_of_decide_eq_false h7 (by rw [e];rfl);refine .sr<|.yw (.eql Z Z)<|.aq Z<|.cd Z (λh11=>?_) (λh11=>?_)
 ·have q9:op=9:=Al_UInt8_toNat_inj.1 (by have:=Al_of_decide_eq_true h11;show op.toNat=9;omega);refine .sr<|.az Z<|.bR<|.tR<|?_
  refine y9 Z Z λW s=>⟨?_,s.ext⟩
  first
   | (rw [tlv4 (.inl qa)];rfl)
   | (rw [tlv4 (.inr qa)];rfl)
   | (rw [tlv5 (.inl qb)];rfl)
   | (rw [tlv5 (.inr (.inl qb))];rfl)
   | (rw [tlv5 (.inr (.inr qb))];rfl)
   | (rw [tlv6 q9];rfl)
   | (rw [tlv7 qa14 qa15 qb11 qb12 qb13 q9];rfl)
 have q9:¬ op=9:=λe=>Al_of_decide_eq_false h11 (by rw [e];rfl);refine .sk<|.bN<|.tN<|.sr<|.az Z<|?_
 refine y9 Z Z λW s=>⟨?_,s.ext⟩
 first
  | (rw [tlv4 (.inl qa)];rfl)
  | (rw [tlv4 (.inr qa)];rfl)
  | (rw [tlv5 (.inl qb)];rfl)
  | (rw [tlv5 (.inr (.inl qb))];rfl)
  | (rw [tlv5 (.inr (.inr qb))];rfl)
  | (rw [tlv6 q9];rfl)
  | (rw [tlv7 qa14 qa15 qb11 qb12 qb13 q9];rfl)
theorem termOperand_any (H:Hp) (e:Ex) (k:Nat) (ht:(∀ (cs:List Value) (W:World),Rep H (dEx .u8 e) cs->termB e=true\/Ex.op e=0->(tmT e).length<=1000000000->Agr H W->Calls prg 89 #[.agg cs.toArray] W λr W'=>r=.returned (strV (tmT e))/\Ext W W')) (cs:List Value) (w:World) (h:Rep H (dEx .u8 e) cs) (hok:termB e=true\/e.op=0) (hl:(tmT e).length<=1000000000) (hA:Agr H w) :
 Calls prg 139 #[.agg cs.toArray,iN k] w λr w'=>r=.returned (strV (prnT (decide (tlv e.op<k)) (tmT e)))/\Ext w w':=by
 obtain ⟨op,nm,nn,args⟩:=e;obtain ⟨pp,c,rfl,hs,hnm⟩:=ex_open h;refine Sx.enter (H:=H) func139 rfl ntmps139 rfl hA ?_;refine .sr<|.bx Z Z Z λb2=>.aq Z<|.sq<|.sr<|.fA Z Fx.field76_0<|.lD Z Fx.agg74 Hm Z<|.yw (.call Fx.call140 Z (λW s=>tlv_any H op W s.agr))<|.mv Z<|.yw (.lss Z Z)<|.nt<|.cd Z (λh9=>?_) (λh9=>?_)
 ·have h9:tlv op<k:=by have:=Al_of_decide_eq_true h9;omega
  refine .sr<|.yw (.loadW Z Fx.agg76 Hm Z)<|.yw (.call Fx.call89 Z (λW s=>ht _ W h hok hl s.agr))<|.yw (.app Z Z (by (try simp only [Al_List_length_append,Al_List_length_cons,Al_List_length_nil]);omega))<|.yw (.app Z Z (by (try simp only [Al_List_length_append,Al_List_length_cons,Al_List_length_nil]);omega))<|.az Z<|.tR<|?_
  refine y9 Z Z λW s=>⟨?_,s.ext⟩
  first
   | (rw [show decide (tlv (Ex.op (.mk op nm nn args))<k)=true from Al_decide_eq_true h9];rfl)
   | (rw [show decide (tlv (Ex.op (.mk op nm nn args))<k)=false from Al_decide_eq_false h9];rfl)
 have h9:¬ tlv op<k:=λe=>Al_of_decide_eq_false h9 (by omega);refine .sk<|.tN<|.sr<|.yw (.loadW Z Fx.agg76 Hm Z)<|.yw (.call Fx.call89 Z (λW s=>ht _ W h hok hl s.agr))<|.az Z<|?_
 refine y9 Z Z λW s=>⟨?_,s.ext⟩
 first
  | (rw [show decide (tlv (Ex.op (.mk op nm nn args))<k)=true from Al_decide_eq_true h9];rfl)
  | (rw [show decide (tlv (Ex.op (.mk op nm nn args))<k)=false from Al_decide_eq_false h9];rfl)
theorem termText_any (H:Hp) (G:Gf H) (gq:Gq H) (e:Ex):(∀ (cs:List Value) (W:World),Rep H (dEx .u8 e) cs->termB e=true\/Ex.op e=0->(tmT e).length<=1000000000->Agr H W->Calls prg 89 #[.agg cs.toArray] W λr W'=>r=.returned (strV (tmT e))/\Ext W W'):=by
 induction e using Ex.ind with | _ op nm nn args ih
 intro cs w h hok hl hA;obtain ⟨pp,c,rfl,hs,hnm⟩:=ex_open h;have hcap:=hs.cap;refine Sx.enter (H:=H) func89 rfl ntmps89 rfl hA ?_;refine .sr<|.bx Z Z Z λb1=>.aq Z<|.sq<|.sr<|.fA Z Fx.field76_0<|.lD Z Fx.agg74 Hm Z<|.nt<|.bk<|.sr<|.yw (.eql Z Z)<|.aq Z<|.cd Z (λh6=>?_) (λh6=>?_)
 ·have q1:op=1:=Al_UInt8_toNat_inj.1 (by have:=Al_of_decide_eq_true h6;show op.toNat=1;omega);refine .sr<|.fA Z Fx.field76_2<|.lD Z Fx.agg2 Hm Z<|.yw (.call Fx.call138 Z (λW s=>formatInt_any H gq nn W s.agr))<|.az Z<|.bR<|.tR<|?_
  refine y9 Z Z λW s=>⟨?_,s.ext⟩
  first
   | (rw [tm1 q1])
   | (rw [tm4 q4];rfl)
   | (rw [tm5 q5])
   | (rw [tm6 q6 h0];rfl)
   | (rw [tm8 q8];rfl)
   | (rw [tm9 q9 h0];rfl)
   | (rw [tmb qB h0 h1];rfl)
   | (rw [tmn q1 q4 q5 q6 q8 q9 qB];rfl)
 have q1:¬ op=1:=λe=>Al_of_decide_eq_false h6 (by rw [e];rfl);refine .sr<|.yw (.eql Z Z)<|.aq Z<|.cd Z (λh11=>?_) (λh11=>?_)
 ·have q4:op=4:=Al_UInt8_toNat_inj.1 (by have:=Al_of_decide_eq_true h11;show op.toNat=4;omega);refine .sr<|.az Z<|.bR<|.tR<|?_
  refine y9 Z Z λW s=>⟨?_,s.ext⟩
  first
   | (rw [tm1 q1])
   | (rw [tm4 q4];rfl)
   | (rw [tm5 q5])
   | (rw [tm6 q6 h0];rfl)
   | (rw [tm8 q8];rfl)
   | (rw [tm9 q9 h0];rfl)
   | (rw [tmb qB h0 h1];rfl)
   | (rw [tmn q1 q4 q5 q6 q8 q9 qB];rfl)
 have q4:¬ op=4:=λe=>Al_of_decide_eq_false h11 (by rw [e];rfl);refine .sr<|.yw (.eql Z Z)<|.aq Z<|.cd Z (λh13=>?_) (λh13=>?_)
 ·have q5:op=5:=Al_UInt8_toNat_inj.1 (by have:=Al_of_decide_eq_true h13;show op.toNat=5;omega);refine .sr<|.fA Z Fx.field76_1<|.lD Z Fx.agg9 Hm Z<|.az Z<|.bR<|.tR<|?_
  refine y9 Z Z λW s=>⟨?_,s.ext⟩
  first
   | (rw [tm1 q1])
   | (rw [tm4 q4];rfl)
   | (rw [tm5 q5])
   | (rw [tm6 q6 h0];rfl)
   | (rw [tm8 q8];rfl)
   | (rw [tm9 q9 h0];rfl)
   | (rw [tmb qB h0 h1];rfl)
   | (rw [tmn q1 q4 q5 q6 q8 q9 qB];rfl)
 have q5:¬ op=5:=λe=>Al_of_decide_eq_false h13 (by rw [e];rfl);refine .sr<|.yw (.eql Z Z)<|.aq Z<|.cd Z (λh17=>?_) (λh17=>?_)
 ·have q6:op=6:=Al_UInt8_toNat_inj.1 (by have:=Al_of_decide_eq_true h17;show op.toNat=6;omega);obtain ⟨hla,hta⟩:=term_args1 (.inl q6) (hok.resolve_right (by rw [q6];exact (by decide:¬ (6:UInt8)=0)));have h0:0<args.length:=by omega
  obtain ⟨b0,o0,c0,hp0,r0,l0,m0⟩:=hs.elem (map_at h0);cases hp0;rw [tm6 q6 h0] at hl;simp only [Al_List_length_append,Al_List_length_cons,Al_List_length_nil] at hl

  refine .sq<|.fL 10 [(0,0),(1,0),(2,0),(3,0),(4,0),(5,0),(6,0),(7,0),(8,0),(9,0)]<|.fA Z Fx.field76_1<|.lD Z Fx.agg9 Hm Z<|.yw (.app Z Z (by (try simp only [Al_List_length_append,Al_List_length_cons,Al_List_length_nil]);omega))<|.fA Z Fx.field76_3<|.lD Z Fx.agg32 Hm Z<|.yw (.indexSl Fx.sl32 Z Z (i:=0) Z (by omega) (q:=o0+0 * 4) Z)<|.yw (.loadMW Z Fx.agg76 m0 l0)<|.yw (.call Fx.call89 Z (λW s=>ih _ (Al_List_getElem_mem h0) _ W r0 (.inl (hta _ (Al_List_getElem_mem h0))) (by omega) s.agr))<|.yw (.app Z Z (by (try simp only [Al_List_length_append,Al_List_length_cons,Al_List_length_nil]);omega))<|.yw (.app Z Z (by (try simp only [Al_List_length_append,Al_List_length_cons,Al_List_length_nil]);omega))<|.fn (tl:=[_]) Z<|.az Z<|.bR<|.tR<|?_
  refine y9 Z Z λW s=>⟨?_,s.ext⟩
  first
   | (rw [tm1 q1])
   | (rw [tm4 q4];rfl)
   | (rw [tm5 q5])
   | (rw [tm6 q6 h0];rfl)
   | (rw [tm8 q8];rfl)
   | (rw [tm9 q9 h0];rfl)
   | (rw [tmb qB h0 h1];rfl)
   | (rw [tmn q1 q4 q5 q6 q8 q9 qB];rfl)
 have q6:¬ op=6:=λe=>Al_of_decide_eq_false h17 (by rw [e];rfl);refine .sr<|.yw (.eql Z Z)<|.aq Z<|.cd Z (λh29=>?_) (λh29=>?_)
 ·have q8:op=8:=Al_UInt8_toNat_inj.1 (by have:=Al_of_decide_eq_true h29;show op.toNat=8;omega);refine .sr<|.fA Z Fx.field76_1<|.lD Z Fx.agg9 Hm Z<|.yw (.app Z Z (by (try simp only [Al_List_length_append,Al_List_length_cons,Al_List_length_nil]);omega))<|.az Z<|.bR<|.tR<|?_
  refine y9 Z Z λW s=>⟨?_,s.ext⟩
  first
   | (rw [tm1 q1])
   | (rw [tm4 q4];rfl)
   | (rw [tm5 q5])
   | (rw [tm6 q6 h0];rfl)
   | (rw [tm8 q8];rfl)
   | (rw [tm9 q9 h0];rfl)
   | (rw [tmb qB h0 h1];rfl)
   | (rw [tmn q1 q4 q5 q6 q8 q9 qB];rfl)
 have q8:¬ op=8:=λe=>Al_of_decide_eq_false h29 (by rw [e];rfl);refine .sr<|.yw (.eql Z Z)<|.aq Z<|.cd Z (λh34=>?_) (λh34=>?_)
 ·have q9:op=9:=Al_UInt8_toNat_inj.1 (by have:=Al_of_decide_eq_true h34;show op.toNat=9;omega);obtain ⟨hla,hta⟩:=term_args1 (.inr q9) (hok.resolve_right (by rw [q9];exact (by decide:¬ (9:UInt8)=0)));have h0:0<args.length:=by omega
  obtain ⟨b0,o0,c0,hp0,r0,l0,m0⟩:=hs.elem (map_at h0);cases hp0;rw [tm9 q9 h0] at hl;simp only [Al_List_length_append,Al_List_length_cons,Al_List_length_nil] at hl;have pl:=prnT_len (decide (tlv args[0].op<6)) (tmT args[0])

  refine .sr<|.fA Z Fx.field76_3<|.lD Z Fx.agg32 Hm Z<|.yw (.indexSl Fx.sl32 Z Z (i:=0) Z (by omega) (q:=o0+0 * 4) Z)<|.yw (.loadMW Z Fx.agg76 m0 l0)<|.yw (.call Fx.call139 Z (λW s=>termOperand_any H _ 6 (ih _ (Al_List_getElem_mem h0)) _ W r0 (.inl (hta _ (Al_List_getElem_mem h0))) (by omega) s.agr))<|.yw (.app Z Z (by (try simp only [Al_List_length_append,Al_List_length_cons,Al_List_length_nil]);omega))<|.az Z<|.bR<|.tR<|?_
  refine y9 Z Z λW s=>⟨?_,s.ext⟩
  first
   | (rw [tm1 q1])
   | (rw [tm4 q4];rfl)
   | (rw [tm5 q5])
   | (rw [tm6 q6 h0];rfl)
   | (rw [tm8 q8];rfl)
   | (rw [tm9 q9 h0];rfl)
   | (rw [tmb qB h0 h1];rfl)
   | (rw [tmn q1 q4 q5 q6 q8 q9 qB];rfl)
 have q9:¬ op=9:=λe=>Al_of_decide_eq_false h34 (by rw [e];rfl);refine .cu (X:=Bool) [(1,_)] ⟨Z,Jt⟩ (λz=>[(42,.bool z)]) (λz=>H) (λz=>[.box b1 [.int .u8 op.toNat,strV nm,.int .i64 nn.toInt,.slice pp args.length c] 76]) (λz=>z=decide (op=11\/op=12\/op=13\/op=14\/op=15)) ?_ λz hC=>?_
 ·
  refine .sr<|.yw (.eql Z Z)<|.aq Z<|.cr Z (λh42=>?_) (λh42=>?_)
  ·have qb:op=11:=Al_UInt8_toNat_inj.1 (by have:=Al_of_decide_eq_true h42;show op.toNat=11;omega);exact .sk<|.tN<|.me _ ⟨Z,Jt⟩ ⟨Z,Jt⟩ (λ_ s=>s) (by first | (rw [qb];rfl) | (simp only [qb11,qb12,qb13,qb14,false_or];exact k8 (m:=15) (by decide)))
  have qb11:¬ op=11:=λe=>Al_of_decide_eq_false h42 (by rw [e];rfl);refine .sr<|.yw (.eql Z Z)<|.aq Z<|.cr Z (λh42=>?_) (λh42=>?_)
  ·have qb:op=12:=Al_UInt8_toNat_inj.1 (by have:=Al_of_decide_eq_true h42;show op.toNat=12;omega);exact .sk<|.tN<|.me _ ⟨Z,Jt⟩ ⟨Z,Jt⟩ (λ_ s=>s) (by first | (rw [qb];rfl) | (simp only [qb11,qb12,qb13,qb14,false_or];exact k8 (m:=15) (by decide)))
  have qb12:¬ op=12:=λe=>Al_of_decide_eq_false h42 (by rw [e];rfl);refine .sr<|.yw (.eql Z Z)<|.aq Z<|.cr Z (λh42=>?_) (λh42=>?_)
  ·have qb:op=13:=Al_UInt8_toNat_inj.1 (by have:=Al_of_decide_eq_true h42;show op.toNat=13;omega);exact .sk<|.tN<|.me _ ⟨Z,Jt⟩ ⟨Z,Jt⟩ (λ_ s=>s) (by first | (rw [qb];rfl) | (simp only [qb11,qb12,qb13,qb14,false_or];exact k8 (m:=15) (by decide)))
  have qb13:¬ op=13:=λe=>Al_of_decide_eq_false h42 (by rw [e];rfl);refine .sr<|.yw (.eql Z Z)<|.aq Z<|.cr Z (λh42=>?_) (λh42=>?_)
  ·have qb:op=14:=Al_UInt8_toNat_inj.1 (by have:=Al_of_decide_eq_true h42;show op.toNat=14;omega);exact .sk<|.tN<|.me _ ⟨Z,Jt⟩ ⟨Z,Jt⟩ (λ_ s=>s) (by first | (rw [qb];rfl) | (simp only [qb11,qb12,qb13,qb14,false_or];exact k8 (m:=15) (by decide)))
  have qb14:¬ op=14:=λe=>Al_of_decide_eq_false h42 (by rw [e];rfl);exact .rg<|.yw (.eql Z Z)<|.aq Z<|.me _ ⟨Z,Jt⟩ ⟨Z,Jt⟩ (λ_ s=>s) (by first | (rw [qb];rfl) | (simp only [qb11,qb12,qb13,qb14,false_or];exact k8 (m:=15) (by decide)))
 have eqB:=hC;refine .cr Z (λh42=>?_) (λh42=>?_)
 ·have qB:(op=11\/op=12\/op=13\/op=14\/op=15):=by rw [h42] at eqB;exact Al_of_decide_eq_true eqB.symm
  obtain ⟨hla,hta⟩:=term_args2 qB (hok.resolve_right (by rintro (h:op=0);rw [h] at qB;revert qB;decide));have h0:0<args.length:=by omega
  have h1:1<args.length:=by omega
  obtain ⟨b0,o0,c0,hp0,r0,l0,m0⟩:=hs.elem (map_at h0);cases hp0;obtain ⟨b1,o1,c1,hp1,r1,l1,m1⟩:=hs.elem (map_at h1);cases hp1;rw [tmb qB h0 h1] at hl;simp only [Al_List_length_append,Al_List_length_cons,Al_List_length_nil] at hl;have pl:=prnT_len (decide (tlv args[0].op<tlv op)) (tmT args[0]);have pl1:=prnT_len (decide (tlv args[1].op<tlv op+1)) (tmT args[1]);have psy:=symT_len op;have htl:=tlv_le op;have hop:op.toNat<=15:=by rcases qB with rfl | rfl | rfl | rfl | rfl <;> decide
  refine .sr<|.fA Z Fx.field76_0<|.lD Z Fx.agg74 Hm Z<|.yw (.call Fx.call140 Z (λW s=>tlv_any H op W s.agr))<|.aq Z<|.sq<|.fL 21 [(0,0),(1,0),(2,0),(3,0),(4,0),(5,0),(6,0),(7,0),(8,0),(9,0),(10,0),(11,0),(12,0),(13,0),(14,0),(15,0),(16,0),(17,0),(18,0),(19,0),(20,0)]<|.fA Z Fx.field76_3<|.lD Z Fx.agg32 Hm Z<|.yw (.indexSl Fx.sl32 Z Z (i:=0) Z (by omega) (q:=o0+0 * 4) Z)<|.yw (.loadMW Z Fx.agg76 m0 l0)<|.mv Z<|.yw (.call Fx.call139 Z (λW s=>termOperand_any H _ (tlv op) (ih _ (Al_List_getElem_mem h0)) _ W r0 (.inl (hta _ (Al_List_getElem_mem h0))) (by omega) s.agr))<|.yw (.app Z Z (by (try simp only [Al_List_length_append,Al_List_length_cons,Al_List_length_nil]);omega))<|.fA Z Fx.field76_0<|.lD Z Fx.agg74 Hm Z<|.yw (.indexArr Fx.arr165 Z Z Z (by omega) (q:=op.toNat) (by omega))<|.yw (.loadM (k:=op.toNat) (v:=strV (symT op)) Z Fx.agg9 G.syms (by omega) (by show _=some (strV (fsyms.getD op.toNat []));exact list_at (by show op.toNat<22;omega) []))<|.yw (.app Z Z (by (try simp only [Al_List_length_append,Al_List_length_cons,Al_List_length_nil]);omega))<|.yw (.app Z Z (by (try simp only [Al_List_length_append,Al_List_length_cons,Al_List_length_nil]);omega))<|.fA Z Fx.field76_3<|.lD Z Fx.agg32 Hm Z<|.yw (.indexSl Fx.sl32 Z Z (i:=1) Z (by omega) (q:=o0+1 * 4) Z)<|.yw (.loadMW Z Fx.agg76 m1 l1)<|.mv Z<|.yw (.add Z Z w7)<|.yw (.call Fx.call139 Z (λW s=>termOperand_any H _ (tlv op+1) (ih _ (Al_List_getElem_mem h1)) _ W r1 (.inl (hta _ (Al_List_getElem_mem h1))) (by omega) s.agr))<|.yw (.app Z Z (by (try simp only [Al_List_length_append,Al_List_length_cons,Al_List_length_nil]);omega))<|.fn (tl:=[_]) Z<|.az Z<|.bR<|.tR<|?_
  refine y9 Z Z λW s=>⟨?_,s.ext⟩
  first
   | (rw [tm1 q1])
   | (rw [tm4 q4];rfl)
   | (rw [tm5 q5])
   | (rw [tm6 q6 h0];rfl)
   | (rw [tm8 q8];rfl)
   | (rw [tm9 q9 h0];rfl)
   | (rw [tmb qB h0 h1];rfl)
   | (rw [tmn q1 q4 q5 q6 q8 q9 qB];rfl)
 have qB:¬ (op=11\/op=12\/op=13\/op=14\/op=15):=by rw [h42] at eqB;exact Al_of_decide_eq_false eqB.symm
 refine .sk<|.bN<|.tN<|.sr<|.az Z<|?_
 refine y9 Z Z λW s=>⟨?_,s.ext⟩
 first
  | (rw [tm1 q1])
  | (rw [tm4 q4];rfl)
  | (rw [tm5 q5])
  | (rw [tm6 q6 h0];rfl)
  | (rw [tm8 q8];rfl)
  | (rw [tm9 q9 h0];rfl)
  | (rw [tmb qB h0 h1];rfl)
  | (rw [tmn q1 q4 q5 q6 q8 q9 qB];rfl)
theorem join_joi (sep:Str):∀ l:List Str,Lib.join l sep=joiT sep l
 | []=>rfl
 | [x]=>Lib.join_one x sep
 | x::y::r=>by
  show _=x++sep++joiT sep (y::r);rw [<-join_joi sep (y::r),Lib.join_cons,Lib.join_cons];simp [Lib.joinTail,Al_List_append_assoc]
theorem joi_len (sep:Str):∀ l:List Str,(joiT sep l).length<=(l.map List.length).sum+l.length * sep.length
 | []=>Al_Nat_zero_le _
 | [x]=>by show x.length<=x.length+0+1 * sep.length;omega
 | x::y::r=>by
  have h:=joi_len sep (y::r);show (x++sep++joiT sep (y::r)).length<=_;rw [Al_List_length_append,Al_List_length_append,Al_List_map_cons,List.sum_cons,Al_List_length_cons (a:=x),Al_Nat_add_mul];omega
theorem joi_ge (sep:Str):∀ (l:List Str),∀ x∈l,x.length<=(joiT sep l).length
 | [y],x,h=>by rw [Al_List_mem_singleton.1 h];exact Al_Nat_le_refl _
 | y::z::r,x,h=>by
  show _<=(y++sep++joiT sep (z::r)).length;rw [Al_List_length_append,Al_List_length_append];rcases Al_List_mem_cons.1 h with rfl | h
  ·omega
  ·have:=joi_ge sep (z::r) x h;omega
section
variable {op:UInt8} {nm fd:Str} {a b:Int64} {ex:List Ex} {args:List Fm} {e0:Ex}
theorem form_all (h:Fm.all formB (.mk op nm fd a b ex args)=true):formB (.mk op nm fd a b ex args)=true/\∀ g∈args,Fm.all formB g=true:=by
 rw [fm_allL,Al_Bool_and_eq_true,Al_List_all_eq_true] at h;exact h
theorem form_parts (h:formB (.mk op nm fd a b ex args)=true):¬ (fsOf op).lv=0/\args.length=(fsOf op).ar/\exsB (.mk op nm fd a b ex args)=true/\bndB (.mk op nm fd a b ex args)=true:=by
 unfold formB at h;rw [Al_Bool_and_eq_true,Al_Bool_and_eq_true,Al_Bool_and_eq_true,Al_Bool_and_eq_true,Al_Bool_and_eq_true,Al_decide_eq_true_eq,Al_decide_eq_true_eq] at h;exact ⟨h.1.1.1.1.1,h.1.1.2,h.2,h.1.2⟩
theorem form_op (h:formB (.mk op nm fd a b ex args)=true):op.toNat<=18:=by
 have h1:=(form_parts h).1;exact Classical.byContradiction λe=>h1 (by unfold fsOf;rw [List.getD_eq_getElem?_getD,List.getElem?_eq_none (by show 19<=op.toNat;omega)];rfl)
theorem form_ex7 (h:formB (.mk op nm fd a b ex args)=true) (q:op=7):ex.length<=4/\∀ e∈ex,termB e=true\/e.op=0:=by
 have h1:=(form_parts h).2.2.1;subst q;unfold exsB at h1;rw [Al_if_pos (show (Fm.mk 7 nm fd a b ex args).op=7 from rfl),Al_Bool_and_eq_true,Al_decide_eq_true_eq,Al_List_all_eq_true] at h1;refine ⟨h1.1,λe he=>?_⟩;have h2:=h1.2 e he;rw [Al_Bool_or_eq_true] at h2;rcases h2 with h2 | h2
 ·obtain ⟨o,n,m,al⟩:=e;unfold anyB at h2;simp only [Al_Bool_and_eq_true,Al_decide_eq_true_eq] at h2;exact .inr h2.1.1.1
 ·exact .inl h2
theorem form_exn (h:formB (.mk op nm fd a b ex args)=true) (q:¬ op=7):ex.length=(fsOf op).ex/\(if op=3 then cmpB (ex.headD (.mk 0 [] 0 [])) else if op=5 then termB (ex.headD (.mk 0 [] 0 [])) else if op=18 then decide ((ex.headD (.mk 0 [] 0 [])).op=1) && termB (ex.headD (.mk 0 [] 0 [])) && decide ((ex.headD (.mk 0 [] 0 [])).n.toInt<=32) else true)=true:=by
 have h1:=(form_parts h).2.2.1;unfold exsB at h1;rw [Al_if_neg (show ¬ (Fm.mk op nm fd a b ex args).op=7 from q),Al_Bool_and_eq_true,Al_decide_eq_true_eq] at h1;exact h1
theorem form_ex1 (h:formB (.mk op nm fd a b ex args)=true) (q:op=5\/op=18):∃ e0,ex=[e0]/\termB e0=true:=by
 have h1:=form_exn h (by rcases q with rfl | rfl <;> decide);have hl:ex.length=1:=h1.1.trans (by rcases q with rfl | rfl <;> rfl);obtain ⟨e0,rfl⟩:=List.length_eq_one_iff.1 hl;refine ⟨e0,Z,?_⟩;have h2:=h1.2;rcases q with rfl | rfl
 ·exact h2
 ·rw [Al_if_neg (by decide),Al_if_neg (by decide),Al_if_pos rfl,Al_Bool_and_eq_true,Al_Bool_and_eq_true] at h2;exact h2.1.2
theorem form_ex3 (h:formB (.mk op nm fd a b ex args)=true) (q:op=3):∃ op0 nm0 m0 args0,ex=[.mk op0 nm0 m0 args0]/\(16<=op0.toNat/\op0.toNat<=21)/\args0.length=2/\∀ a∈args0,termB a=true:=by
 have h1:=form_exn h (by subst q;decide);have hl:ex.length=1:=h1.1.trans (by subst q;rfl);obtain ⟨⟨op0,nm0,m0,args0⟩,rfl⟩:=List.length_eq_one_iff.1 hl;refine ⟨op0,nm0,m0,args0,Z,?_⟩;have h2:=h1.2;rw [Al_if_pos q] at h2;change cmpB (.mk op0 nm0 m0 args0)=true at h2;unfold cmpB at h2;simp only [Al_Bool_and_eq_true,Al_decide_eq_true_eq] at h2;rw [termBs_all,Al_List_all_eq_true] at h2;exact ⟨⟨h2.1.1.1.1,h2.1.1.1.2⟩,h2.2.2,h2.2.1⟩
theorem fx3 {op0:UInt8} {nm0:Str} {m0:Int64} {args0:List Ex} (h:op=3) (he:ex=[.mk op0 nm0 m0 args0]) (h0:0<args0.length) (h1:1<args0.length):fmT (.mk op nm fd a b ex args)=(tmT args0[0]++([32]:Str)++symT op0++([32]:Str)++tmT args0[1]:Str):=by
 match args0,h1 with
 | x::y::r,_=>rw [fm_mk];subst h he;rfl
theorem fx4 (h:op=4):fmT (.mk op nm fd a b ex args)=(nm++([46]:Str)++fd:Str):=by rw [fm_mk];subst h;rfl
theorem fx5 (h:op=5) (he:ex=[e0]):fmT (.mk op nm fd a b ex args)=(wordF op++([32]:Str)++nm++([46]:Str)++fd++([91]:Str)++tmT e0++([93]:Str):Str):=by rw [fm_mk];subst h he;rfl
theorem fx6 (h:op=6):fmT (.mk op nm fd a b ex args)=(wordF op++([32]:Str)++nm:Str):=by rw [fm_mk];subst h;rfl
theorem fx7 (h:op=7):fmT (.mk op nm fd a b ex args)=(wordF op++([32]:Str)++nm++([46]:Str)++fd++([40]:Str)++joiT ([44,32]:Str) (ex.map tmT)++([41]:Str):Str):=by rw [fm_mk];subst h;rfl
def pfW (k:Nat) (f:Fm):Str:=prnT (decide ((fsOf f.op).lv<k)) (fmT f)
theorem fxu (h:op=8\/op=12\/op=13\/op=14) (h0:0<args.length):fmT (.mk op nm fd a b ex args)=(wordF op++winT (.mk op nm fd a b ex args)++([32]:Str)++pfW 5 args[0]:Str):=by
 rw [fm_mk];unfold fmOp pfW;rw [hd0 h0];rcases h with rfl | rfl | rfl | rfl <;> rfl
theorem fxq (h:op=16\/op=17) (h0:0<args.length):fmT (.mk op nm fd a b ex args)=(wordF op++amoT (.mk op nm fd a b ex args)++([32]:Str)++pfW 5 args[0]:Str):=by
 rw [fm_mk];unfold fmOp pfW;rw [hd0 h0];rcases h with rfl | rfl <;> rfl
theorem fx18 (h:op=18) (he:ex=[e0]) (h0:0<args.length):fmT (.mk op nm fd a b ex args)=(wordF op++amoT (.mk op nm fd a b ex args)++([32,40]:Str)++fmT args[0]++([41,32,62,61,32]:Str)++tmT e0:Str):=by
 rw [fm_mk];unfold fmOp;rw [hd0 h0];subst h he;rfl
theorem fxb (h:op=15\/op=9\/op=10\/op=11) (h0:0<args.length) (h1:1<args.length):fmT (.mk op nm fd a b ex args)=(pfW (fsOf op).lv args[0]++([32]:Str)++wordF op++winT (.mk op nm fd a b ex args)++([32]:Str)++pfW ((fsOf op).lv+1) args[1]:Str):=by
 rw [fm_mk];unfold fmOp pfW;rw [hd0 h0,hd1 h1];rcases h with rfl | rfl | rfl | rfl <;> rfl
theorem fxn (h3:¬ op=3) (h4:¬ op=4) (h5:¬ op=5) (h6:¬ op=6) (h7:¬ op=7) (hu:¬ (op=8\/op=12\/op=13\/op=14)) (hq:¬ (op=16\/op=17)) (h18:¬ op=18) (hb:¬ (op=15\/op=9\/op=10\/op=11)):fmT (.mk op nm fd a b ex args)=wordF op:=by
 rw [fm_mk];unfold fmOp;rw [Al_if_neg (show ¬ (Fm.mk op nm fd a b ex args).op=3 from h3),Al_if_neg (show ¬ (Fm.mk op nm fd a b ex args).op=4 from h4),Al_if_neg (show ¬ (Fm.mk op nm fd a b ex args).op=5 from h5),Al_if_neg (show ¬ (Fm.mk op nm fd a b ex args).op=6 from h6),Al_if_neg (show ¬ (Fm.mk op nm fd a b ex args).op=7 from h7),Al_if_neg (show ¬ ((Fm.mk op nm fd a b ex args).op=8\/(Fm.mk op nm fd a b ex args).op=12\/(Fm.mk op nm fd a b ex args).op=13\/(Fm.mk op nm fd a b ex args).op=14) from hu),Al_if_neg (show ¬ ((Fm.mk op nm fd a b ex args).op=16\/(Fm.mk op nm fd a b ex args).op=17) from hq),Al_if_neg (show ¬ (Fm.mk op nm fd a b ex args).op=18 from h18),Al_if_neg (show ¬ ((Fm.mk op nm fd a b ex args).op=15\/(Fm.mk op nm fd a b ex args).op=9\/(Fm.mk op nm fd a b ex args).op=10\/(Fm.mk op nm fd a b ex args).op=11) from hb)]
 rfl
theorem ar1 (h:op=8\/op=12\/op=13\/op=14\/op=16\/op=17\/op=18):(fsOf op).ar=1:=by rcases h with rfl | rfl | rfl | rfl | rfl | rfl | rfl <;> rfl
theorem ar2 (h:op=15\/op=9\/op=10\/op=11):(fsOf op).ar=2:=by rcases h with rfl | rfl | rfl | rfl <;> rfl
theorem win_len:(winT (.mk op nm fd a b ex args)).length<=46:=by
 unfold winT
 split
 ·exact Al_Nat_zero_le _
 ·have h1:=itoa_len (Fm.mk op nm fd a b ex args).a;have h2:=itoa_len (Fm.mk op nm fd a b ex args).b;simp only [Al_List_length_append,Al_List_length_cons,Al_List_length_nil];omega
theorem amo_len:(amoT (.mk op nm fd a b ex args)).length<=nm.length+49:=by
 have h1:=itoa_len (Fm.mk op nm fd a b ex args).a;have h2:=itoa_len (Fm.mk op nm fd a b ex args).b;show (([32]:Str)++nm++_++_++_++_).length<=_;simp only [Al_List_length_append,Al_List_length_cons,Al_List_length_nil];omega
theorem pfW_len (k:Nat) (f:Fm):(fmT f).length<=(pfW k f).length/\(pfW k f).length<=(fmT f).length+2:=prnT_len _ _
end
def nlF (f:Fm):Bool:=Fm.all (λf=>decide (f.nm.length<=1000000) && decide (f.fd.length<=1000000) && f.ex.all nlE) f
theorem tmTs_len:∀ l:List Ex,(∀ e∈l,nlE e=true)->((l.map tmT).map List.length).sum<=1000100 * Ex.counts l
 | [],_=>Al_Nat_zero_le _
 | e::r,h=>by
  rw [Al_List_map_cons,Al_List_map_cons,List.sum_cons,Ex.counts];have h1:=tmT_len e (h e (Al_List_mem_cons_self ..));have h2:=tmTs_len r λx hx=>h x (Al_List_mem_cons_of_mem _ hx);omega
theorem tmAt_len (e:Ex) (h:nlE e=true):(tmT (ex0 e)).length+(tmT (ex1 e)).length<=1000100 * e.count:=by
 obtain ⟨op,nm,n,args⟩:=e;unfold nlE at h;rw [all_mk,alls_allE,Al_Bool_and_eq_true,Al_List_all_eq_true] at h;rw [ex_count];have hz:tmT zE=[95]:=tm_mk
 match args,h.2 with
 | [],_=>show (tmT zE).length+(tmT zE).length<=_;rw [hz,Ex.counts];decide
 | [x],h =>
  have:=tmT_len x (h x (Al_List_mem_cons_self ..));show (tmT x).length+(tmT zE).length<=_;rw [hz,Ex.counts,Ex.counts];show _+1<=_;omega
 | x::y::r,h =>
  have h1:=tmT_len x (h x (Al_List_mem_cons_self ..));have h2:=tmT_len y (h y (Al_List_mem_cons_of_mem _ (Al_List_mem_cons_self ..)));show (tmT x).length+(tmT y).length<=_;rw [Ex.counts,Ex.counts];omega
theorem fmOp_len (F:Fm) (l:List (UInt8 × Str)) (C D:Nat) (h1:F.nm.length<=1000000) (h2:F.fd.length<=1000000) (he:(tmT (exH F)).length+(tmT (ex0 (exH F))).length+(tmT (ex1 (exH F))).length<=2000200 * D+3)
 (hj:(joiT ([44,32]:Str) (F.ex.map tmT)).length<=1000102 * D) (hx:(l.headD (0,[])).2.length+((l.drop 1).headD (0,[])).2.length<=3000200 * C) (w1:(winT F).length<=46) (w2:(amoT F).length<=F.nm.length+49):(fmOp F l).length<=3000200 * (D+C+1):=by
 have w3:=wordF_len F.op;have w4:=symT_len (exH F).op;have p1:=(prnT_len (decide ((fsOf (l.headD (0,[])).1).lv<5)) (l.headD (0,[])).2).2;have p2:=(prnT_len (decide ((fsOf (l.headD (0,[])).1).lv<(fsOf F.op).lv)) (l.headD (0,[])).2).2;have p3:=(prnT_len (decide ((fsOf ((l.drop 1).headD (0,[])).1).lv<(fsOf F.op).lv+1)) ((l.drop 1).headD (0,[])).2).2;unfold fmOp
 repeat' split
 all_goals (try simp only [Al_List_length_append,Al_List_length_cons,Al_List_length_nil]);omega
theorem fmT_len (f:Fm) (hn:nlF f=true):(fmT f).length<=3000200 * f.count:=by
 induction f using Fm.ind with | _ op nm fd a b ex args ih
 unfold nlF at hn;rw [fm_allL,Al_Bool_and_eq_true,Al_Bool_and_eq_true,Al_Bool_and_eq_true,Al_decide_eq_true_eq,Al_decide_eq_true_eq,Al_List_all_eq_true,Al_List_all_eq_true] at hn;obtain ⟨⟨⟨hn,hf⟩,he⟩,ha⟩:=hn;have hn':nm.length<=1000000:=hn;have hf':fd.length<=1000000:=hf;have he':∀ e∈ex,nlE e=true:=he
 have hx:∀ (l:List (UInt8 × Str)),l=args.map (λf=>(f.op,fmT f))->(l.headD (0,[])).2.length+((l.drop 1).headD (0,[])).2.length<=3000200 * Fm.counts args:=by
  rintro l rfl
  match args,ih,ha with
  | [],_,_=>exact Al_Nat_zero_le _
  | [a],ih,ha =>
   have:=ih a (Al_List_mem_cons_self ..) (ha a (Al_List_mem_cons_self ..));rw [Fm.counts,Fm.counts];show (fmT a).length+0<=_;omega
  | a::b::r,ih,ha =>
   have h1:=ih a (Al_List_mem_cons_self ..) (ha a (Al_List_mem_cons_self ..));have h2:=ih b (Al_List_mem_cons_of_mem _ (Al_List_mem_cons_self ..)) (ha b (Al_List_mem_cons_of_mem _ (Al_List_mem_cons_self ..)));rw [Fm.counts,Fm.counts];show (fmT a).length+(fmT b).length<=_;omega
 have hx:=hx _ rfl
 have he0:(tmT (exH (.mk op nm fd a b ex args))).length+(tmT (ex0 (exH (.mk op nm fd a b ex args)))).length+(tmT (ex1 (exH (.mk op nm fd a b ex args)))).length<=2000200 * Ex.counts ex+3:=by
  have hz:tmT zE=[95]:=tm_mk
  match ex,he' with
  | [],_ =>
   show (tmT zE).length+(tmT zE).length+(tmT zE).length<=_;rw [hz];show 3<=_;omega
  | e::r,h =>
   have h1:=tmT_len e (h e (Al_List_mem_cons_self ..));have h2:=tmAt_len e (h e (Al_List_mem_cons_self ..));show (tmT e).length+(tmT (ex0 e)).length+(tmT (ex1 e)).length<=_;rw [Ex.counts];omega
 have hj:=joi_len ([44,32]:Str) (ex.map tmT);have hs:=tmTs_len ex he';have hl2:=ex_len ex;rw [Al_List_length_map] at hj;rw [fm_count,fm_mk];have e2:([44,32]:Str).length=2:=rfl;rw [e2] at hj;exact fmOp_len _ _ _ _ hn' hf' he0 (Al_Nat_le_trans hj (by omega)) hx win_len amo_len
theorem fld_s0 (s:Fs):∀ W,(Instr.field 157 (.agg (fsC s).toArray) 0).run prg W=.ok (.int .u8 (s.lv:Nat)) W:=λ_=>by kernel_rfl
theorem fld_s3 (s:Fs):∀ W,(Instr.field 157 (.agg (fsC s).toArray) 3).run prg W=.ok (.bool s.wn) W:=λ_=>by kernel_rfl
section
variable {op:UInt8} {nm fd:Str} {a b:Int64} {ex:List Ex} {args:List Fm}
theorem win_1 (h:(!(fsOf op).wn)=true):winT (.mk op nm fd a b ex args)=[]:=by
 unfold winT;exact Al_if_pos (show (!(fsOf op).wn || decide (b.toInt<0))=true by rw [h];rfl)
theorem win_2 (h:(!(fsOf op).wn)=false) (h2:decide (b.toInt<0)=true):winT (.mk op nm fd a b ex args)=[]:=by
 unfold winT;exact Al_if_pos (show (!(fsOf op).wn || decide (b.toInt<0))=true by rw [h,h2];rfl)
theorem win_3 (h:(!(fsOf op).wn)=false) (h2:decide (b.toInt<0)=false):winT (.mk op nm fd a b ex args)=([91]:Str)++Lib.itoa a.toInt++([44,32]:Str)++Lib.itoa b.toInt++([93]:Str):=by
 unfold winT;exact Al_if_neg (show ¬ (!(fsOf op).wn || decide (b.toInt<0))=true by rw [h,h2];decide)
end
theorem window_any (H:Hp) (G:Gf H) (gq:Gq H) (f:Fm) (cs:List Value) (w:World) (h:Rep H (dFm .u8 f) cs) (hA:Agr H w):Calls prg 91 #[.agg cs.toArray] w λr w'=>r=.returned (strV (winT f))/\Ext w w':=by
 obtain ⟨op,nm,fd,a,b,ex,args⟩:=f;obtain ⟨p1,c1,p2,c2,rfl,hs1,hs2,hnm,hfd⟩:=fm_open h;have hi1:=itoa_len a;have hi2:=itoa_len b;refine Sx.enter (H:=H) func91 rfl ntmps91 rfl hA ?_;refine .sr<|.bx Z Z Z λb1=>.aq Z<|.sq<|.sr<|.fA Z Fx.field35_0<|.lD Z Fx.agg31 Hm Z<|.yw (.call (v:=.agg (fsC (fsOf op)).toArray) Fx.call74 Z (λW s=>fshape_any H G op W s.agr))<|.yw (.fld Z (fld_s3 _))<|.yw (.not Z)<|.mv Z<|.b2 (λh8=>?_) (λh8=>?_)
 ·try simp only [dt] at h8
  refine .gG<|.gG<|.gG<|.yw (.pickT Z Z)<|.nt<|.cT Z<|.sr<|.az Z<|.tR<|?_
  refine y9 Z Z λW s=>⟨?_,s.ext⟩
  first
   | (rw [win_2 h8 h12];rfl)
   | (rw [win_3 h8 h12];rfl)
   | (rw [win_1 h8];rfl)
 try simp only [df] at h8
 refine .gy (.fieldAddr Z Fx.field35_4)<|.gy (.load Z Fx.agg3 Hm Z)<|.gy (.lss Z Z)<|.yw (.pickF Z Z)<|.nt<|.cd Z (λh12=>?_) (λh12=>?_)
 ·refine .sr<|.az Z<|.tR<|?_
  refine y9 Z Z λW s=>⟨?_,s.ext⟩
  first
   | (rw [win_2 h8 h12];rfl)
   | (rw [win_3 h8 h12];rfl)
   | (rw [win_1 h8];rfl)
 refine .sk<|.tN<|.sq<|.fL 10 [(0,0),(1,0),(2,0),(3,0),(4,0),(5,0),(6,0),(7,0),(8,0),(9,0)]<|.fA Z Fx.field35_3<|.lD Z Fx.agg3 Hm Z<|.yw (.call Fx.call144 Z (λW s=>itoa_any H gq a W s.agr))<|.yw (.app Z Z (by (try simp only [Al_List_length_append,Al_List_length_cons,Al_List_length_nil]);omega))<|.yw (.app Z Z (by (try simp only [Al_List_length_append,Al_List_length_cons,Al_List_length_nil]);omega))<|.fA Z Fx.field35_4<|.lD Z Fx.agg3 Hm Z<|.yw (.call Fx.call144 Z (λW s=>itoa_any H gq b W s.agr))<|.yw (.app Z Z (by (try simp only [Al_List_length_append,Al_List_length_cons,Al_List_length_nil]);omega))<|.yw (.app Z Z (by (try simp only [Al_List_length_append,Al_List_length_cons,Al_List_length_nil]);omega))<|.fn (tl:=[_]) Z<|.az Z<|?_
 refine y9 Z Z λW s=>⟨?_,s.ext⟩
 first
  | (rw [win_2 h8 h12];rfl)
  | (rw [win_3 h8 h12];rfl)
  | (rw [win_1 h8];rfl)
theorem among_any (H:Hp) (gq:Gq H) (f:Fm) (cs:List Value) (w:World) (h:Rep H (dFm .u8 f) cs) (hA:Agr H w):Calls prg 93 #[.agg cs.toArray] w λr w'=>r=.returned (strV (amoT f))/\Ext w w':=by
 obtain ⟨op,nm,fd,a,b,ex,args⟩:=f;obtain ⟨p1,c1,p2,c2,rfl,hs1,hs2,hnm,hfd⟩:=fm_open h;have hi1:=itoa_len a;have hi2:=itoa_len b;refine Sx.enter (H:=H) func93 rfl ntmps93 rfl hA ?_;refine .sr<|.bx Z Z Z λb1=>.aq Z<|.sq<|.fL 13 [(0,0),(1,0),(2,0),(3,0),(4,0),(5,0),(6,0),(7,0),(8,0),(9,0),(10,0),(11,0),(12,0)]<|.fA Z Fx.field35_1<|.lD Z Fx.agg9 Hm Z<|.yw (.app Z Z (by (try simp only [Al_List_length_append,Al_List_length_cons,Al_List_length_nil]);omega))<|.yw (.app Z Z (by (try simp only [Al_List_length_append,Al_List_length_cons,Al_List_length_nil]);omega))<|.fA Z Fx.field35_3<|.lD Z Fx.agg3 Hm Z<|.yw (.call Fx.call144 Z (λW s=>itoa_any H gq a W s.agr))<|.yw (.app Z Z (by (try simp only [Al_List_length_append,Al_List_length_cons,Al_List_length_nil]);omega))<|.yw (.app Z Z (by (try simp only [Al_List_length_append,Al_List_length_cons,Al_List_length_nil]);omega))<|.fA Z Fx.field35_4<|.lD Z Fx.agg3 Hm Z<|.yw (.call Fx.call144 Z (λW s=>itoa_any H gq b W s.agr))<|.yw (.app Z Z (by (try simp only [Al_List_length_append,Al_List_length_cons,Al_List_length_nil]);omega))<|.fn (tl:=[_]) Z<|.az Z<|?_
 refine y9 Z Z λW s=>⟨?_,s.ext⟩
 first
  | (rfl)
theorem foperand_any (H:Hp) (G:Gf H) {op:UInt8} {nm fd:Str} {a b:Int64} {ex:List Ex} {args:List Fm} (i k:Nat) (hk:i<args.length) (ht:(∀ (cs:List Value) (W:World),Rep H (dFm .u8 args[i]) cs->Fm.all formB args[i]=true->(fmT args[i]).length<=1000000000->Agr H W->Calls prg 48 #[.agg cs.toArray] W λr W'=>r=.returned (strV (fmT args[i]))/\Ext W W')) (cs:List Value) (w:World) (h:Rep H (dFm .u8 (.mk op nm fd a b ex args)) cs) (hok:Fm.all formB args[i]=true) (hl:(fmT args[i]).length<=1000000000) (hA:Agr H w) :
 Calls prg 92 #[.agg cs.toArray,iN i,.int .u8 (k:Nat)] w λr w'=>r=.returned (strV (pfW k args[i]))/\Ext w w':=by
 obtain ⟨p1,c1,p2,c2,rfl,hs1,hs2,hnm,hfd⟩:=fm_open h;have hcap:=hs2.cap;obtain ⟨bE,oE,cE,hpE,rE,lE,mE⟩:=hs2.elem (map_at (f:=dFm .u8) hk);cases hpE;generalize ef:args[i]=g at rE ht hok hl|-;obtain ⟨op0,nm0,fd0,a0,b0,ex0,args0⟩:=g;obtain ⟨q1,d1,q2,d2,rfl,g1,g2,gn,gf⟩:=fm_open rE;clear ef;have ef:=@id True trivial;refine Sx.enter (H:=H) func92 rfl ntmps92 rfl hA ?_;refine .sr<|.bx Z Z Z λb3=>.a Z Z<|.ns<|.fA Z Fx.field35_6<|.lD Z Fx.agg33 Hm Z<|.mv Z<|.yw (.indexSl Fx.sl33 Z Z (i:=i) Z hk (q:=oE+i * 7) Z)<|.yw (.loadMW Z Fx.agg35 mE lE)<|.al Fx.zero35 Z λb7=>.sX .head Z Z Fx.size35 Z<|.nt<|.sq<|.sr<|.fA Z Fx.field35_0<|.lD Z Fx.agg31 Hm Z<|.yw (.call (v:=.agg (fsC (fsOf _)).toArray) Fx.call74 Z (λW s=>fshape_any H G _ W s.agr))<|.yw (.fld Z (fld_s0 _))<|.mv Z<|.yw (.lss Z Z)<|.nt<|.cd Z (λh18=>?_) (λh18=>?_)
 ·have h18:(fsOf op0).lv<k:=by have:=Al_of_decide_eq_true h18;omega
  refine .sr<|.yw (.loadW Z Fx.agg35 Hm Z)<|.yw (.call Fx.call48 Z (λW s=>ht _ W rE hok hl s.agr))<|.yw (.app Z Z (by (try simp only [Al_List_length_append,Al_List_length_cons,Al_List_length_nil]);omega))<|.yw (.app Z Z (by (try simp only [Al_List_length_append,Al_List_length_cons,Al_List_length_nil]);omega))<|.az Z<|.tR<|?_
  refine y9 Z Z λW s=>⟨?_,s.ext⟩
  first
   | (unfold pfW;rw [show decide ((fsOf (Fm.op (.mk op0 nm0 fd0 a0 b0 ex0 args0))).lv<k)=true from Al_decide_eq_true h18];rfl)
   | (unfold pfW;rw [show decide ((fsOf (Fm.op (.mk op0 nm0 fd0 a0 b0 ex0 args0))).lv<k)=false from Al_decide_eq_false h18];rfl)
 have h18:¬ (fsOf op0).lv<k:=λe=>Al_of_decide_eq_false h18 (by omega);refine .sk<|.tN<|.sr<|.yw (.loadW Z Fx.agg35 Hm Z)<|.yw (.call Fx.call48 Z (λW s=>ht _ W rE hok hl s.agr))<|.az Z<|?_
 refine y9 Z Z λW s=>⟨?_,s.ext⟩
 first
  | (unfold pfW;rw [show decide ((fsOf (Fm.op (.mk op0 nm0 fd0 a0 b0 ex0 args0))).lv<k)=true from Al_decide_eq_true h18];rfl)
  | (unfold pfW;rw [show decide ((fsOf (Fm.op (.mk op0 nm0 fd0 a0 b0 ex0 args0))).lv<k)=false from Al_decide_eq_false h18];rfl)
variable {n:Nat}
theorem wu8 (h:n<255):IntKind.u8.wrap ((n:Int)+1)=((n+1:Nat):Int):=by
 have key:∀ i∈List.range 256,IntKind.u8.wrap (i:Int)=(i:Int):=by decide +kernel
 exact key (n+1) (Al_List_mem_range.2 (by omega))
theorem take_snocE {l:List Ex} (h:k<l.length):l.take (k+1)=l.take k++[l[k]]:=by rw [List.take_succ,List.getElem?_eq_getElem h];rfl
theorem join_W (W:World) (b o c:Nat) (xs:List Str) (h:∀ (j:Nat) x,xs[j]? = some x->W.cell? ⟨b,o+j,none⟩=some (strV x)) (hb:b<W.heap.size) (hN:xs.length<=140737488355328) (hc:xs.length<=c) (hl:(joiT ([44,32]:Str) xs).length<=140737488355328) :
 Calls prg 90 #[.slice (some ⟨b,o,none⟩) xs.length c,strV [44,32]] W λe w'=>e=.returned (strV (joiT ([44,32]:Str) xs))/\Ext W w':=by
 have e1:((xs.map λl=>(⟨l.toArray⟩:ByteArray)).map (·.data.toList))=xs:=by simp [Function.comp_def]
 have h2:=Tryz.strings_Join b o c (xs.map λl=>(⟨l.toArray⟩:ByteArray)) ⟨#[44,32]⟩ W (λj x e=>by
  rw [List.getElem?_map] at e;cases e2:xs[j]? with
  | none=>rw [e2] at e;cases e
  | some y=>rw [e2] at e;cases e;exact h j y e2) hb (by simpa using hN) (by simpa using hc) (by rw [e1,join_joi];exact hl)
 rw [e1,Al_List_length_map,join_joi] at h2;exact h2.mono λe w' ⟨a,k⟩=>⟨a,Ext.of_below k⟩
variable {w0 W:World} {bs:List Res} {T:TypeId}
theorem join_row {r:Value} (xs:List Str) (hn:xs.length=n) (s:St H w0 bs W) (hm:Res.row T 1 r n (xs.map strV)∈bs) (hN:xs.length<=1000) (hl:(joiT ([44,32]:Str) xs).length<=140737488355328) :
 Calls prg 90 #[r,strV [44,32]] W λe w'=>e=.returned (strV (joiT ([44,32]:Str) xs))/\Ext W w':=by
 have ho:W.ownsRow w0.heap.size T 1 r n (xs.map strV):=(s.own _ hm).1;subst hn;rcases ho.2 with ⟨hr,h0⟩ | ⟨g,cap,cur,hr,_,hg,hc,_⟩
 ·obtain rfl:=Al_List_eq_nil_of_length_eq_zero h0;subst hr;exact (Tryz.strings_Join_none none 0 ⟨#[44,32]⟩ W).mono λe w' ⟨h1,h2⟩=>⟨h1,h2 ▸ Ext.refl W⟩
 ·subst hr;refine join_W W g 0 cap xs (λj x e=>?_) ?_ (by omega) hc hl
  ·have:=World.ownsRow.cells ho (g:=g) rfl j (strV x) (by rw [List.getElem?_map,e];rfl);rw [Addr.add_lit,Al_Nat_zero_add] at this;rw [Al_Nat_zero_add];exact this
  ·exact (Array.getElem?_eq_some_iff.1 hg).1
set_option maxHeartbeats 4000000 in
theorem ftext_any (H:Hp) (G:Gf H) (gq:Gq H) (f:Fm):(∀ (cs:List Value) (W:World),Rep H (dFm .u8 f) cs->Fm.all formB f=true->(fmT f).length<=1000000000->Agr H W->Calls prg 48 #[.agg cs.toArray] W λr W'=>r=.returned (strV (fmT f))/\Ext W W'):=by
 induction f using Fm.ind with | _ op nm fd a b ex args ih
 intro cs w h hok hl hA;obtain ⟨p1,c1,p2,c2,rfl,hs1,hs2,hnm,hfd⟩:=fm_open h;have hcap1:=hs1.cap;have hcap2:=hs2.cap;obtain ⟨hF,hG⟩:=form_all hok;have hop:=form_op hF;have hwl:=wordF_len op;have hwn:=win_len (op:=op) (nm:=nm) (fd:=fd) (a:=a) (b:=b) (ex:=ex) (args:=args);have ham:=amo_len (op:=op) (nm:=nm) (fd:=fd) (a:=a) (b:=b) (ex:=ex) (args:=args);refine Sx.enter (H:=H) func48 rfl ntmps48 rfl hA ?_;refine .sr<|.bx Z Z Z λb1=>.a Z Z<|.ns<|.fA Z Fx.field35_0<|.lD Z Fx.agg31 Hm Z<|.yw (.indexArr Fx.arr163 Z Z Z (by omega) (q:=op.toNat) (by omega))<|.yw (.loadM (k:=op.toNat) (v:=strV (wordF op)) Z Fx.agg9 G.words (by omega) (by show _=some (strV (fwords.getD op.toNat []));exact list_at (by show op.toNat<19;omega) []))<|.aq Z<|.sq<|.sr<|.fA Z Fx.field35_0<|.lD Z Fx.agg31 Hm Z<|.nt<|.bk<|.sr<|.yw (.eql Z Z)<|.aq Z<|.cd Z (λh15=>?_) (λh15=>?_)
 ·have q3:op=3:=Al_UInt8_toNat_inj.1 (by have:=Al_of_decide_eq_true h15;show op.toNat=3;omega);obtain ⟨op0,nm0,m0,args0,he,ho0,hla,hta⟩:=form_ex3 hF q3;have h0:0<args0.length:=by omega
  have h1:1<args0.length:=by omega
  rw [fx3 q3 he h0 h1] at hl;simp only [Al_List_length_append,Al_List_length_cons,Al_List_length_nil] at hl;subst he;obtain ⟨bX,oX,cX,hpX,rX,lX,mX⟩:=hs1.elem (i:=0) (d:=dEx .u8 (.mk op0 nm0 m0 args0)) rfl;cases hpX;obtain ⟨p0,c0,rfl,hs0,hn0⟩:=ex_open rX;have hcap0:=hs0.cap;obtain ⟨bA,oA,cA,hpA,rA,lA,mA⟩:=hs0.elem (map_at (f:=dEx .u8) h0);cases hpA;obtain ⟨bB,oB,cB,hpB,rB,lB,mB⟩:=hs0.elem (map_at (f:=dEx .u8) h1);cases hpB;have psy:=symT_len op0;refine .sr<|.fA Z Fx.field35_5<|.lD Z Fx.agg32 Hm Z<|.yw (.indexSl Fx.sl32 Z Z (i:=0) Z (by first | omega | exact Nat.succ_pos _) (q:=oX+0 * 4) Z)<|.yw (.loadMW Z Fx.agg76 mX Z)<|.al Fx.zero76 Z λb4=>.sX .head Z Z Fx.size76 Z<|.nt<|.sq<|.fL 18 [(0,0),(1,0),(2,0),(3,0),(4,0),(5,0),(6,0),(7,0),(8,0),(9,0),(10,0),(11,0),(12,0),(13,0),(14,0),(15,0),(16,0),(17,0)]<|.fA Z Fx.field76_3<|.lD Z Fx.agg32 Hm Z<|.yw (.indexSl Fx.sl32 Z Z (i:=0) Z (by first | omega | exact Nat.succ_pos _) (q:=oA+0 * 4) Z)<|.yw (.loadMW Z Fx.agg76 mA lA)<|.yw (.call Fx.call89 Z (λW s=>termText_any H G gq _ _ W rA (.inl (hta _ (Al_List_getElem_mem h0))) (by omega) s.agr))<|.yw (.app Z Z (by (try simp only [Al_List_length_append,Al_List_length_cons,Al_List_length_nil]);omega))<|.fA Z Fx.field76_0<|.lD Z Fx.agg74 Hm Z<|.yw (.indexArr Fx.arr165 Z Z Z (by omega) (q:=op0.toNat) (by omega))<|.yw (.loadM (k:=op0.toNat) (v:=strV (symT op0)) Z Fx.agg9 G.syms (by omega) (by show _=some (strV (fsyms.getD op0.toNat []));exact list_at (by show op0.toNat<22;omega) []))<|.yw (.app Z Z (by (try simp only [Al_List_length_append,Al_List_length_cons,Al_List_length_nil]);omega))<|.yw (.app Z Z (by (try simp only [Al_List_length_append,Al_List_length_cons,Al_List_length_nil]);omega))<|.fA Z Fx.field76_3<|.lD Z Fx.agg32 Hm Z<|.yw (.indexSl Fx.sl32 Z Z (i:=1) Z (by first | omega | exact Nat.succ_pos _) (q:=oA+1 * 4) Z)<|.yw (.loadMW Z Fx.agg76 mB lB)<|.yw (.call Fx.call89 Z (λW s=>termText_any H G gq _ _ W rB (.inl (hta _ (Al_List_getElem_mem h1))) (by omega) s.agr))<|.yw (.app Z Z (by (try simp only [Al_List_length_append,Al_List_length_cons,Al_List_length_nil]);omega))<|.fn (tl:=[_]) Z<|.az Z<|.bR<|.tR<|?_
  refine y9 Z Z λW s=>⟨?_,s.ext⟩
  first
   | (rw [fx3 q3 rfl h0 h1];rfl)
   | (rw [fx4 q4];rfl)
   | (rw [fx5 q5 rfl];rfl)
   | (rw [fx6 q6];rfl)
   | (rw [fx7 q7];rfl)
   | (rw [fxu qU h0];rfl)
   | (rw [fxq qQ h0];rfl)
   | (rw [fx18 q18 rfl h0];rfl)
   | (rw [fxb qB h0 h1];rfl)
   | (rw [fxn q3 q4 q5 q6 q7 qU qQ q18 qB])
 have q3:¬ op=3:=λe=>Al_of_decide_eq_false h15 (by rw [e];rfl);refine .sr<|.yw (.eql Z Z)<|.aq Z<|.cd Z (λh39=>?_) (λh39=>?_)
 ·have q4:op=4:=Al_UInt8_toNat_inj.1 (by have:=Al_of_decide_eq_true h39;show op.toNat=4;omega);refine .sr<|.fA Z Fx.field35_1<|.lD Z Fx.agg9 Hm Z<|.yw (.app Z Z (by (try simp only [Al_List_length_append,Al_List_length_cons,Al_List_length_nil]);omega))<|.fA Z Fx.field35_2<|.lD Z Fx.agg9 Hm Z<|.yw (.app Z Z (by (try simp only [Al_List_length_append,Al_List_length_cons,Al_List_length_nil]);omega))<|.az Z<|.bR<|.tR<|?_
  refine y9 Z Z λW s=>⟨?_,s.ext⟩
  first
   | (rw [fx3 q3 rfl h0 h1];rfl)
   | (rw [fx4 q4];rfl)
   | (rw [fx5 q5 rfl];rfl)
   | (rw [fx6 q6];rfl)
   | (rw [fx7 q7];rfl)
   | (rw [fxu qU h0];rfl)
   | (rw [fxq qQ h0];rfl)
   | (rw [fx18 q18 rfl h0];rfl)
   | (rw [fxb qB h0 h1];rfl)
   | (rw [fxn q3 q4 q5 q6 q7 qU qQ q18 qB])
 have q4:¬ op=4:=λe=>Al_of_decide_eq_false h39 (by rw [e];rfl);refine .sr<|.yw (.eql Z Z)<|.aq Z<|.cd Z (λh47=>?_) (λh47=>?_)
 ·have q5:op=5:=Al_UInt8_toNat_inj.1 (by have:=Al_of_decide_eq_true h47;show op.toNat=5;omega);obtain ⟨e0,he,hte⟩:=form_ex1 hF (.inl q5);rw [fx5 q5 he] at hl;simp only [Al_List_length_append,Al_List_length_cons,Al_List_length_nil] at hl;subst he;obtain ⟨bX,oX,cX,hpX,rX,lX,mX⟩:=hs1.elem (i:=0) (d:=dEx .u8 e0) rfl;cases hpX

  refine .sq<|.fL 17 [(0,0),(1,0),(2,0),(3,0),(4,0),(5,0),(6,0),(7,0),(8,0),(9,0),(10,0),(11,0),(12,0),(13,0),(14,0),(15,0),(16,0)]<|.mv Z<|.yw (.app Z Z (by (try simp only [Al_List_length_append,Al_List_length_cons,Al_List_length_nil]);omega))<|.fA Z Fx.field35_1<|.lD Z Fx.agg9 Hm Z<|.yw (.app Z Z (by (try simp only [Al_List_length_append,Al_List_length_cons,Al_List_length_nil]);omega))<|.yw (.app Z Z (by (try simp only [Al_List_length_append,Al_List_length_cons,Al_List_length_nil]);omega))<|.fA Z Fx.field35_2<|.lD Z Fx.agg9 Hm Z<|.yw (.app Z Z (by (try simp only [Al_List_length_append,Al_List_length_cons,Al_List_length_nil]);omega))<|.yw (.app Z Z (by (try simp only [Al_List_length_append,Al_List_length_cons,Al_List_length_nil]);omega))<|.fA Z Fx.field35_5<|.lD Z Fx.agg32 Hm Z<|.yw (.indexSl Fx.sl32 Z Z (i:=0) Z (by first | omega | exact Nat.succ_pos _) (q:=oX+0 * 4) Z)<|.yw (.loadMW Z Fx.agg76 mX lX)<|.yw (.call Fx.call89 Z (λW s=>termText_any H G gq _ _ W rX (.inl hte) (by omega) s.agr))<|.yw (.app Z Z (by (try simp only [Al_List_length_append,Al_List_length_cons,Al_List_length_nil]);omega))<|.yw (.app Z Z (by (try simp only [Al_List_length_append,Al_List_length_cons,Al_List_length_nil]);omega))<|.fn (tl:=[_]) Z<|.az Z<|.bR<|.tR<|?_
  refine y9 Z Z λW s=>⟨?_,s.ext⟩
  first
   | (rw [fx3 q3 rfl h0 h1];rfl)
   | (rw [fx4 q4];rfl)
   | (rw [fx5 q5 rfl];rfl)
   | (rw [fx6 q6];rfl)
   | (rw [fx7 q7];rfl)
   | (rw [fxu qU h0];rfl)
   | (rw [fxq qQ h0];rfl)
   | (rw [fx18 q18 rfl h0];rfl)
   | (rw [fxb qB h0 h1];rfl)
   | (rw [fxn q3 q4 q5 q6 q7 qU qQ q18 qB])
 have q5:¬ op=5:=λe=>Al_of_decide_eq_false h47 (by rw [e];rfl);refine .sr<|.yw (.eql Z Z)<|.aq Z<|.cd Z (λh66=>?_) (λh66=>?_)
 ·have q6:op=6:=Al_UInt8_toNat_inj.1 (by have:=Al_of_decide_eq_true h66;show op.toNat=6;omega);refine .sm Z<|.yw (.app Z Z (by (try simp only [Al_List_length_append,Al_List_length_cons,Al_List_length_nil]);omega))<|.fA Z Fx.field35_1<|.lD Z Fx.agg9 Hm Z<|.yw (.app Z Z (by (try simp only [Al_List_length_append,Al_List_length_cons,Al_List_length_nil]);omega))<|.az Z<|.bR<|.tR<|?_
  refine y9 Z Z λW s=>⟨?_,s.ext⟩
  first
   | (rw [fx3 q3 rfl h0 h1];rfl)
   | (rw [fx4 q4];rfl)
   | (rw [fx5 q5 rfl];rfl)
   | (rw [fx6 q6];rfl)
   | (rw [fx7 q7];rfl)
   | (rw [fxu qU h0];rfl)
   | (rw [fxq qQ h0];rfl)
   | (rw [fx18 q18 rfl h0];rfl)
   | (rw [fxb qB h0 h1];rfl)
   | (rw [fxn q3 q4 q5 q6 q7 qU qQ q18 qB])
 have q6:¬ op=6:=λe=>Al_of_decide_eq_false h66 (by rw [e];rfl);refine .sr<|.yw (.eql Z Z)<|.aq Z<|.cd Z (λh73=>?_) (λh73=>?_)
 ·have q7:op=7:=Al_UInt8_toNat_inj.1 (by have:=Al_of_decide_eq_true h73;show op.toNat=7;omega);obtain ⟨hle,hte⟩:=form_ex7 hF q7;rw [fx7 q7] at hl;simp only [Al_List_length_append,Al_List_length_cons,Al_List_length_nil] at hl

  refine .sq<|?_
  refine Sx.row0 9 1 ?_;refine .rg<|.aq Z<|.sq<|.sr<|.fA Z Fx.field35_5<|.lD Z Fx.agg32 mem1 Z<|.yw (.lenSl Fx.sl32 Z)<|.mv Z<|.nt<|.bk<|.lp (X:=Nat × Value × List Value) [(1,_),(3,_),(76,_),(77,_)] ⟨Z,Z,Z,Z,Jt⟩ [_] (λz=>[(5,z.2.1),(78,iN z.1)]) (λz=>H) (λz=>[.row 9 1 z.2.1 z.1 z.2.2]) (λz=>z.1<=ex.length/\z.2.2=((ex.take z.1).map tmT).map strV) (λz=>ex.length - z.1) (0,.slice none 0 0,[]) (λ_ s=>s) ⟨Z,Z,Jt⟩ ⟨Al_Nat_zero_le _,Z⟩ λz hC=>?_
  obtain ⟨k,rv,xs⟩:=z;obtain ⟨hk0,hxs⟩:=hC;dsimp only at hk0 hxs|-;subst hxs;refine .sr<|.yw (.lss Z Z)<|.nt<|.sq<|.ce Z (λh79=>?_) (λh79=>?_)
  ·have hk:k<ex.length:=by omega
   obtain ⟨bX,oX,cX,hpX,rX,lX,mX⟩:=hs1.elem (map_at (f:=dEx .u8) hk);cases hpX;have hj:=joi_ge ([44,32]:Str) (ex.map tmT) (tmT ex[k]) (Al_List_mem_map.2 ⟨_,Al_List_getElem_mem hk,Z⟩);exact .sk<|.tN<|.sq<|.bk<|.sr<|.yw (.indexSl Fx.sl32 Z Z (i:=k) Z hk (q:=oX+k * 4) Z)<|.yw (.loadMW Z Fx.agg76 mX lX)<|.al Fx.zero76 Z λb7=>.sV .head Z Z Fx.size76 lX rX.one Z<|.nt<|.rg<|.mv Z<|.yw (.loadW Z Fx.agg76 Hm lX)<|.yw (.call Fx.call89 Z (λW s=>termText_any H G gq _ _ W rX (hte _ (Al_List_getElem_mem hk)) (by omega) s.agr))<|.bl Z (Fx.bsl71_1 _) Z λb85=>.ap (news:=[strV (tmT ex[k])]) Fx.row71 Z (λ_=>upd2) Z (.box Hm z0) Z (by simp [Value.oneCell',strV]) (by simp [maxLen];omega) (by omega) Z λr86 _=>.a Z Z<|.nl<|.bN<|.tN<|.rg<|.yw (.add Z Z w7)<|.mv Z<|.nt<|.ag (x:=(k,rv,((ex.take k).map tmT).map strV)) (k+1,r86,(((ex.take k).map tmT).map strV)++[strV (tmT ex[k])]) ⟨Z,Z,Jt⟩ ⟨Z,Z,Z,Z,Jt⟩ (λ_ s=>s.pick [2,3] [_,_] Z Z) ⟨hk,by rw [take_snocE hk,Al_List_map_append,Al_List_map_append];rfl⟩ (by omega)
  obtain rfl:k=ex.length:=by omega
  rw [Al_List_take_length];refine .ex<|.eb<|.sq<|.fL 14 [(0,0),(1,0),(2,0),(3,0),(4,0),(5,0),(6,0),(7,0),(8,0),(9,0),(10,0),(11,0),(12,0),(13,0)]<|.mv Z<|.yw (.app Z Z (by (try simp only [Al_List_length_append,Al_List_length_cons,Al_List_length_nil]);omega))<|.fA Z Fx.field35_1<|.lD Z Fx.agg9 mem1 Z<|.yw (.app Z Z (by (try simp only [Al_List_length_append,Al_List_length_cons,Al_List_length_nil]);omega))<|.yw (.app Z Z (by (try simp only [Al_List_length_append,Al_List_length_cons,Al_List_length_nil]);omega))<|.fA Z Fx.field35_2<|.lD Z Fx.agg9 mem1 Z<|.yw (.app Z Z (by (try simp only [Al_List_length_append,Al_List_length_cons,Al_List_length_nil]);omega))<|.yw (.app Z Z (by (try simp only [Al_List_length_append,Al_List_length_cons,Al_List_length_nil]);omega))<|.mv Z<|.yw (.call Fx.call90 Z (λW s=>join_row (ex.map tmT) (Al_List_length_map ..) s Hm (by rw [Al_List_length_map];omega) (by omega)))<|.yw (.app Z Z (by (try simp only [Al_List_length_append,Al_List_length_cons,Al_List_length_nil]);omega))<|.yw (.app Z Z (by (try simp only [Al_List_length_append,Al_List_length_cons,Al_List_length_nil]);omega))<|.fn (tl:=[_]) Z<|.az Z<|.bR<|.tR<|?_
  refine y9 Z Z λW s=>⟨?_,s.ext⟩
  first
   | (rw [fx3 q3 rfl h0 h1];rfl)
   | (rw [fx4 q4];rfl)
   | (rw [fx5 q5 rfl];rfl)
   | (rw [fx6 q6];rfl)
   | (rw [fx7 q7];rfl)
   | (rw [fxu qU h0];rfl)
   | (rw [fxq qQ h0];rfl)
   | (rw [fx18 q18 rfl h0];rfl)
   | (rw [fxb qB h0 h1];rfl)
   | (rw [fxn q3 q4 q5 q6 q7 qU qQ q18 qB])
 have q7:¬ op=7:=λe=>Al_of_decide_eq_false h73 (by rw [e];rfl);refine .cu (X:=Bool) [(1,_),(3,_),(14,_)] ⟨Z,Z,Z,Jt⟩ (λz=>[(102,.bool z)]) (λz=>H) (λz=>[.box b1 [.int .u8 op.toNat,strV nm,strV fd,.int .i64 a.toInt,.int .i64 b.toInt,.slice p1 ex.length c1,.slice p2 args.length c2] 35]) (λz=>z=decide (op=8\/op=12\/op=13\/op=14)) ?_ λz hC=>?_
 ·
  refine .sr<|.yw (.eql Z Z)<|.aq Z<|.cr Z (λh102=>?_) (λh102=>?_)
  ·have qu:op=8:=Al_UInt8_toNat_inj.1 (by have:=Al_of_decide_eq_true h102;show op.toNat=8;omega);exact .sk<|.tN<|.me _ ⟨Z,Jt⟩ ⟨Z,Z,Z,Jt⟩ (λ_ s=>s) (by first | (rw [qu];rfl) | (simp only [qu8,qu12,qu13,false_or];exact k8 (m:=14) (by decide)))
  have qu8:¬ op=8:=λe=>Al_of_decide_eq_false h102 (by rw [e];rfl);refine .sr<|.yw (.eql Z Z)<|.aq Z<|.cr Z (λh102=>?_) (λh102=>?_)
  ·have qu:op=12:=Al_UInt8_toNat_inj.1 (by have:=Al_of_decide_eq_true h102;show op.toNat=12;omega);exact .sk<|.tN<|.me _ ⟨Z,Jt⟩ ⟨Z,Z,Z,Jt⟩ (λ_ s=>s) (by first | (rw [qu];rfl) | (simp only [qu8,qu12,qu13,false_or];exact k8 (m:=14) (by decide)))
  have qu12:¬ op=12:=λe=>Al_of_decide_eq_false h102 (by rw [e];rfl);refine .sr<|.yw (.eql Z Z)<|.aq Z<|.cr Z (λh102=>?_) (λh102=>?_)
  ·have qu:op=13:=Al_UInt8_toNat_inj.1 (by have:=Al_of_decide_eq_true h102;show op.toNat=13;omega);exact .sk<|.tN<|.me _ ⟨Z,Jt⟩ ⟨Z,Z,Z,Jt⟩ (λ_ s=>s) (by first | (rw [qu];rfl) | (simp only [qu8,qu12,qu13,false_or];exact k8 (m:=14) (by decide)))
  have qu13:¬ op=13:=λe=>Al_of_decide_eq_false h102 (by rw [e];rfl);exact .rg<|.yw (.eql Z Z)<|.aq Z<|.me _ ⟨Z,Jt⟩ ⟨Z,Z,Z,Jt⟩ (λ_ s=>s) (by first | (rw [qu];rfl) | (simp only [qu8,qu12,qu13,false_or];exact k8 (m:=14) (by decide)))
 have eqU:=hC;refine .cr Z (λh102=>?_) (λh102=>?_)
 ·have qU:(op=8\/op=12\/op=13\/op=14):=by rw [h102] at eqU;exact Al_of_decide_eq_true eqU.symm
  have har:=(form_parts hF).2.1;rw [ar1 ((by rcases qU with h | h | h | h <;> simp [h]))] at har;have h0:0<args.length:=by omega
  have hok0:=hG _ (Al_List_getElem_mem h0);rw [fxu qU h0] at hl;simp only [Al_List_length_append,Al_List_length_cons,Al_List_length_nil] at hl;have pl:=pfW_len 5 args[0]

  refine .sq<|.fL 8 [(0,0),(1,0),(2,0),(3,0),(4,0),(5,0),(6,0),(7,0)]<|.mv Z<|.yw (.loadW Z Fx.agg35 Hm Z)<|.yw (.call Fx.call91 Z (λW s=>window_any H G gq _ _ W h s.agr))<|.yw (.app Z Z (by (try simp only [Al_List_length_append,Al_List_length_cons,Al_List_length_nil]);omega))<|.yw (.app Z Z (by (try simp only [Al_List_length_append,Al_List_length_cons,Al_List_length_nil]);omega))<|.yw (.loadW Z Fx.agg35 Hm Z)<|.yw (.call Fx.call92 Z (λW s=>foperand_any H G 0 5 h0 (ih _ (Al_List_getElem_mem h0)) _ W h hok0 (by omega) s.agr))<|.yw (.app Z Z (by (try simp only [Al_List_length_append,Al_List_length_cons,Al_List_length_nil]);omega))<|.fn (tl:=[_]) Z<|.az Z<|.bR<|.tR<|?_
  refine y9 Z Z λW s=>⟨?_,s.ext⟩
  first
   | (rw [fx3 q3 rfl h0 h1];rfl)
   | (rw [fx4 q4];rfl)
   | (rw [fx5 q5 rfl];rfl)
   | (rw [fx6 q6];rfl)
   | (rw [fx7 q7];rfl)
   | (rw [fxu qU h0];rfl)
   | (rw [fxq qQ h0];rfl)
   | (rw [fx18 q18 rfl h0];rfl)
   | (rw [fxb qB h0 h1];rfl)
   | (rw [fxn q3 q4 q5 q6 q7 qU qQ q18 qB])
 have qU:¬ (op=8\/op=12\/op=13\/op=14):=by rw [h102] at eqU;exact Al_of_decide_eq_false eqU.symm
 refine .cu (X:=Bool) [(1,_),(3,_),(14,_)] ⟨Z,Z,Z,Jt⟩ (λz=>[(115,.bool z)]) (λz=>H) (λz=>[.box b1 [.int .u8 op.toNat,strV nm,strV fd,.int .i64 a.toInt,.int .i64 b.toInt,.slice p1 ex.length c1,.slice p2 args.length c2] 35]) (λz=>z=decide (op=16\/op=17)) ?_ λz hC=>?_
 ·
  refine .sr<|.yw (.eql Z Z)<|.aq Z<|.cr Z (λh115=>?_) (λh115=>?_)
  ·have qq:op=16:=Al_UInt8_toNat_inj.1 (by have:=Al_of_decide_eq_true h115;show op.toNat=16;omega);exact .sk<|.tN<|.me _ ⟨Z,Jt⟩ ⟨Z,Z,Z,Jt⟩ (λ_ s=>s) (by first | (rw [qq];rfl) | (simp only [qq16,false_or];exact k8 (m:=17) (by decide)))
  have qq16:¬ op=16:=λe=>Al_of_decide_eq_false h115 (by rw [e];rfl);exact .rg<|.yw (.eql Z Z)<|.aq Z<|.me _ ⟨Z,Jt⟩ ⟨Z,Z,Z,Jt⟩ (λ_ s=>s) (by first | (rw [qq];rfl) | (simp only [qq16,false_or];exact k8 (m:=17) (by decide)))
 have eqQ:=hC;refine .cr Z (λh115=>?_) (λh115=>?_)
 ·have qQ:(op=16\/op=17):=by rw [h115] at eqQ;exact Al_of_decide_eq_true eqQ.symm
  have har:=(form_parts hF).2.1;rw [ar1 ((by rcases qQ with h | h <;> simp [h]))] at har;have h0:0<args.length:=by omega
  have hok0:=hG _ (Al_List_getElem_mem h0);rw [fxq qQ h0] at hl;simp only [Al_List_length_append,Al_List_length_cons,Al_List_length_nil] at hl;have pl:=pfW_len 5 args[0]

  refine .sq<|.fL 8 [(0,0),(1,0),(2,0),(3,0),(4,0),(5,0),(6,0),(7,0)]<|.mv Z<|.yw (.loadW Z Fx.agg35 Hm Z)<|.yw (.call Fx.call93 Z (λW s=>among_any H gq _ _ W h s.agr))<|.yw (.app Z Z (by (try simp only [Al_List_length_append,Al_List_length_cons,Al_List_length_nil]);omega))<|.yw (.app Z Z (by (try simp only [Al_List_length_append,Al_List_length_cons,Al_List_length_nil]);omega))<|.yw (.loadW Z Fx.agg35 Hm Z)<|.yw (.call Fx.call92 Z (λW s=>foperand_any H G 0 5 h0 (ih _ (Al_List_getElem_mem h0)) _ W h hok0 (by omega) s.agr))<|.yw (.app Z Z (by (try simp only [Al_List_length_append,Al_List_length_cons,Al_List_length_nil]);omega))<|.fn (tl:=[_]) Z<|.az Z<|.bR<|.tR<|?_
  refine y9 Z Z λW s=>⟨?_,s.ext⟩
  first
   | (rw [fx3 q3 rfl h0 h1];rfl)
   | (rw [fx4 q4];rfl)
   | (rw [fx5 q5 rfl];rfl)
   | (rw [fx6 q6];rfl)
   | (rw [fx7 q7];rfl)
   | (rw [fxu qU h0];rfl)
   | (rw [fxq qQ h0];rfl)
   | (rw [fx18 q18 rfl h0];rfl)
   | (rw [fxb qB h0 h1];rfl)
   | (rw [fxn q3 q4 q5 q6 q7 qU qQ q18 qB])
 have qQ:¬ (op=16\/op=17):=by rw [h115] at eqQ;exact Al_of_decide_eq_false eqQ.symm
 refine .sr<|.yw (.eql Z Z)<|.aq Z<|.cd Z (λh126=>?_) (λh126=>?_)
 ·have q18:op=18:=Al_UInt8_toNat_inj.1 (by have:=Al_of_decide_eq_true h126;show op.toNat=18;omega);obtain ⟨e0,he,hte⟩:=form_ex1 hF (.inr q18);have har:=(form_parts hF).2.1;rw [ar1 ((by simp [q18]))] at har;have h0:0<args.length:=by omega
  have hok0:=hG _ (Al_List_getElem_mem h0);rw [fx18 q18 he h0] at hl;simp only [Al_List_length_append,Al_List_length_cons,Al_List_length_nil] at hl;obtain ⟨bE,oE,cE,hpE,rE,lE,mE⟩:=hs2.elem (map_at (f:=dFm .u8) h0);cases hpE;subst he;obtain ⟨bX,oX,cX,hpX,rX,lX,mX⟩:=hs1.elem (i:=0) (d:=dEx .u8 e0) rfl;cases hpX

  refine .sq<|.fL 18 [(0,0),(1,0),(2,0),(3,0),(4,0),(5,0),(6,0),(7,0),(8,0),(9,0),(10,0),(11,0),(12,0),(13,0),(14,0),(15,0),(16,0),(17,0)]<|.mv Z<|.yw (.loadW Z Fx.agg35 Hm Z)<|.yw (.call Fx.call93 Z (λW s=>among_any H gq _ _ W h s.agr))<|.yw (.app Z Z (by (try simp only [Al_List_length_append,Al_List_length_cons,Al_List_length_nil]);omega))<|.yw (.app Z Z (by (try simp only [Al_List_length_append,Al_List_length_cons,Al_List_length_nil]);omega))<|.fA Z Fx.field35_6<|.lD Z Fx.agg33 Hm Z<|.yw (.indexSl Fx.sl33 Z Z (i:=0) Z (by omega) (q:=oE+0 * 7) Z)<|.yw (.loadMW Z Fx.agg35 mE lE)<|.yw (.call Fx.call48 Z (λW s=>ih _ (Al_List_getElem_mem h0) _ W rE hok0 (by omega) s.agr))<|.yw (.app Z Z (by (try simp only [Al_List_length_append,Al_List_length_cons,Al_List_length_nil]);omega))<|.yw (.app Z Z (by (try simp only [Al_List_length_append,Al_List_length_cons,Al_List_length_nil]);omega))<|.fA Z Fx.field35_5<|.lD Z Fx.agg32 Hm Z<|.yw (.indexSl Fx.sl32 Z Z (i:=0) Z (by first | omega | exact Nat.succ_pos _) (q:=oX+0 * 4) Z)<|.yw (.loadMW Z Fx.agg76 mX lX)<|.yw (.call Fx.call89 Z (λW s=>termText_any H G gq _ _ W rX (.inl hte) (by omega) s.agr))<|.yw (.app Z Z (by (try simp only [Al_List_length_append,Al_List_length_cons,Al_List_length_nil]);omega))<|.fn (tl:=[_]) Z<|.az Z<|.bR<|.tR<|?_
  refine y9 Z Z λW s=>⟨?_,s.ext⟩
  first
   | (rw [fx3 q3 rfl h0 h1];rfl)
   | (rw [fx4 q4];rfl)
   | (rw [fx5 q5 rfl];rfl)
   | (rw [fx6 q6];rfl)
   | (rw [fx7 q7];rfl)
   | (rw [fxu qU h0];rfl)
   | (rw [fxq qQ h0];rfl)
   | (rw [fx18 q18 rfl h0];rfl)
   | (rw [fxb qB h0 h1];rfl)
   | (rw [fxn q3 q4 q5 q6 q7 qU qQ q18 qB])
 have q18:¬ op=18:=λe=>Al_of_decide_eq_false h126 (by rw [e];rfl);refine .cu (X:=Bool) [(1,_),(3,_)] ⟨Z,Z,Jt⟩ (λz=>[(146,.bool z)]) (λz=>H) (λz=>[.box b1 [.int .u8 op.toNat,strV nm,strV fd,.int .i64 a.toInt,.int .i64 b.toInt,.slice p1 ex.length c1,.slice p2 args.length c2] 35]) (λz=>z=decide (op=15\/op=9\/op=10\/op=11)) ?_ λz hC=>?_
 ·
  refine .sr<|.yw (.eql Z Z)<|.aq Z<|.cr Z (λh146=>?_) (λh146=>?_)
  ·have qb:op=15:=Al_UInt8_toNat_inj.1 (by have:=Al_of_decide_eq_true h146;show op.toNat=15;omega);exact .sk<|.tN<|.me _ ⟨Z,Jt⟩ ⟨Z,Z,Jt⟩ (λ_ s=>s) (by first | (rw [qb];rfl) | (simp only [qb15,qb9,qb10,false_or];exact k8 (m:=11) (by decide)))
  have qb15:¬ op=15:=λe=>Al_of_decide_eq_false h146 (by rw [e];rfl);refine .sr<|.yw (.eql Z Z)<|.aq Z<|.cr Z (λh146=>?_) (λh146=>?_)
  ·have qb:op=9:=Al_UInt8_toNat_inj.1 (by have:=Al_of_decide_eq_true h146;show op.toNat=9;omega);exact .sk<|.tN<|.me _ ⟨Z,Jt⟩ ⟨Z,Z,Jt⟩ (λ_ s=>s) (by first | (rw [qb];rfl) | (simp only [qb15,qb9,qb10,false_or];exact k8 (m:=11) (by decide)))
  have qb9:¬ op=9:=λe=>Al_of_decide_eq_false h146 (by rw [e];rfl);refine .sr<|.yw (.eql Z Z)<|.aq Z<|.cr Z (λh146=>?_) (λh146=>?_)
  ·have qb:op=10:=Al_UInt8_toNat_inj.1 (by have:=Al_of_decide_eq_true h146;show op.toNat=10;omega);exact .sk<|.tN<|.me _ ⟨Z,Jt⟩ ⟨Z,Z,Jt⟩ (λ_ s=>s) (by first | (rw [qb];rfl) | (simp only [qb15,qb9,qb10,false_or];exact k8 (m:=11) (by decide)))
  have qb10:¬ op=10:=λe=>Al_of_decide_eq_false h146 (by rw [e];rfl);exact .rg<|.yw (.eql Z Z)<|.aq Z<|.me _ ⟨Z,Jt⟩ ⟨Z,Z,Jt⟩ (λ_ s=>s) (by first | (rw [qb];rfl) | (simp only [qb15,qb9,qb10,false_or];exact k8 (m:=11) (by decide)))
 have eqB:=hC;refine .cr Z (λh146=>?_) (λh146=>?_)
 ·have qB:(op=15\/op=9\/op=10\/op=11):=by rw [h146] at eqB;exact Al_of_decide_eq_true eqB.symm
  have har:=(form_parts hF).2.1;rw [ar2 qB] at har;have h0:0<args.length:=by omega
  have h1:1<args.length:=by omega
  have hok0:=hG _ (Al_List_getElem_mem h0);have hok1:=hG _ (Al_List_getElem_mem h1);rw [fxb qB h0 h1] at hl;simp only [Al_List_length_append,Al_List_length_cons,Al_List_length_nil] at hl;have pl:=pfW_len (fsOf op).lv args[0];have pl1:=pfW_len ((fsOf op).lv+1) args[1];have hlv:(fsOf op).lv<=4:=by rcases qB with rfl | rfl | rfl | rfl <;> decide
  refine .sr<|.fA Z Fx.field35_0<|.lD Z Fx.agg31 Hm Z<|.yw (.call (v:=.agg (fsC (fsOf op)).toArray) Fx.call74 Z (λW s=>fshape_any H G op W s.agr))<|.yw (.fld Z (fld_s0 _))<|.aq Z<|.sq<|.fL 15 [(0,0),(1,0),(2,0),(3,0),(4,0),(5,0),(6,0),(7,0),(8,0),(9,0),(10,0),(11,0),(12,0),(13,0),(14,0)]<|.yw (.loadW Z Fx.agg35 Hm Z)<|.mv Z<|.yw (.call Fx.call92 Z (λW s=>foperand_any H G 0 (fsOf op).lv h0 (ih _ (Al_List_getElem_mem h0)) _ W h hok0 (by omega) s.agr))<|.yw (.app Z Z (by (try simp only [Al_List_length_append,Al_List_length_cons,Al_List_length_nil]);omega))<|.mv Z<|.yw (.app Z Z (by (try simp only [Al_List_length_append,Al_List_length_cons,Al_List_length_nil]);omega))<|.yw (.loadW Z Fx.agg35 Hm Z)<|.yw (.call Fx.call91 Z (λW s=>window_any H G gq _ _ W h s.agr))<|.yw (.app Z Z (by (try simp only [Al_List_length_append,Al_List_length_cons,Al_List_length_nil]);omega))<|.yw (.app Z Z (by (try simp only [Al_List_length_append,Al_List_length_cons,Al_List_length_nil]);omega))<|.yw (.loadW Z Fx.agg35 Hm Z)<|.mv Z<|.yw (.add Z Z (c:=(((fsOf op).lv+1:Nat):Int)) (wu8 (by omega)))<|.yw (.call Fx.call92 Z (λW s=>foperand_any H G 1 ((fsOf op).lv+1) h1 (ih _ (Al_List_getElem_mem h1)) _ W h hok1 (by omega) s.agr))<|.yw (.app Z Z (by (try simp only [Al_List_length_append,Al_List_length_cons,Al_List_length_nil]);omega))<|.fn (tl:=[_]) Z<|.az Z<|.bR<|.tR<|?_
  refine y9 Z Z λW s=>⟨?_,s.ext⟩
  first
   | (rw [fx3 q3 rfl h0 h1];rfl)
   | (rw [fx4 q4];rfl)
   | (rw [fx5 q5 rfl];rfl)
   | (rw [fx6 q6];rfl)
   | (rw [fx7 q7];rfl)
   | (rw [fxu qU h0];rfl)
   | (rw [fxq qQ h0];rfl)
   | (rw [fx18 q18 rfl h0];rfl)
   | (rw [fxb qB h0 h1];rfl)
   | (rw [fxn q3 q4 q5 q6 q7 qU qQ q18 qB])
 have qB:¬ (op=15\/op=9\/op=10\/op=11):=by rw [h146] at eqB;exact Al_of_decide_eq_false eqB.symm
 refine .sk<|.bN<|.tN<|.sm Z<|.az Z<|?_
 refine y9 Z Z λW s=>⟨?_,s.ext⟩
 first
  | (rw [fx3 q3 rfl h0 h1];rfl)
  | (rw [fx4 q4];rfl)
  | (rw [fx5 q5 rfl];rfl)
  | (rw [fx6 q6];rfl)
  | (rw [fx7 q7];rfl)
  | (rw [fxu qU h0];rfl)
  | (rw [fxq qQ h0];rfl)
  | (rw [fx18 q18 rfl h0];rfl)
  | (rw [fxb qB h0 h1];rfl)
  | (rw [fxn q3 q4 q5 q6 q7 qU qQ q18 qB])
theorem rep_nlE {e:Ex} :∀ {cs:List Value},Rep H (dEx .u8 e) cs->nlE e=true:=by
 induction e using Ex.ind with | _ op nm n args ih
 intro cs h;obtain ⟨p,c,rfl,hs,hn⟩:=ex_open h;unfold nlE;rw [all_mk,alls_allE,Al_Bool_and_eq_true,Al_decide_eq_true_eq,Al_List_all_eq_true];refine ⟨hn,λa ha=>?_⟩;obtain ⟨i,hi,rfl⟩:=List.getElem_of_mem ha;obtain ⟨bE,oE,cE,hpE,rE,lE,mE⟩:=hs.elem (map_at (f:=dEx .u8) hi);exact ih _ (Al_List_getElem_mem hi) rE
theorem rep_nlF:∀ {cs:List Value},Rep H (dFm .u8 f) cs->nlF f=true:=by
 induction f using Fm.ind with | _ op nm fd a b ex args ih
 intro cs h;obtain ⟨p1,c1,p2,c2,rfl,hs1,hs2,hnm,hfd⟩:=fm_open h;unfold nlF;rw [fm_allL,Al_Bool_and_eq_true,Al_Bool_and_eq_true,Al_Bool_and_eq_true,Al_decide_eq_true_eq,Al_decide_eq_true_eq,Al_List_all_eq_true,Al_List_all_eq_true];refine ⟨⟨⟨hnm,hfd⟩,λe he=>?_⟩,λg hg=>?_⟩
 ·obtain ⟨i,hi,rfl⟩:=List.getElem_of_mem he;obtain ⟨bE,oE,cE,hpE,rE,lE,mE⟩:=hs1.elem (map_at (f:=dEx .u8) hi);exact rep_nlE rE
 ·obtain ⟨i,hi,rfl⟩:=List.getElem_of_mem hg;obtain ⟨bE,oE,cE,hpE,rE,lE,mE⟩:=hs2.elem (map_at (f:=dFm .u8) hi);exact ih _ (Al_List_getElem_mem hi) rE
theorem fck_ok (h:fcheck f=0):f.count<=60/\Fm.all formB f=true:=by
 unfold fcheck at h
 split at h
 ·cases h
 ·rename_i h1
  split at h
  ·cases h
  ·split at h
   ·cases h
   ·rename_i h3;exact ⟨Nat.le_of_not_lt λe=>h1 (.inl e),by simpa using h3⟩
theorem fText_any (H:Hp) (GL:Gl H) (G:Gf H) (gq:Gq H) (f:Fm) (hb:blF 600000 f=true) (cs:List Value) (w:World) (h:Rep H (dFm .u8 f) cs) (hA:Agr H w):Calls prg 19 #[.agg cs.toArray] w λr w'=>r=.returned (strV (textF f))/\Ext w w':=by
 obtain ⟨op,nm,fd,a,b,ex,args⟩:=f;obtain ⟨p1,c1,p2,c2,rfl,hs1,hs2,hnm,hfd⟩:=fm_open h;refine Sx.enter (H:=H) func19 rfl ntmps19 rfl hA ?_;refine .sr<|.bx Z Z Z λb1=>.aq Z<|.sq<|.sr<|.yw (.loadW Z Fx.agg35 Hm Z)<|.yw (.call Fx.call15 Z (λW s=>fcheck_any H GL G (.mk op nm fd a b ex args) hb _ W h s.agr))<|.yw (.neq Z Z)<|.nt<|.cd Z (λh5=>?_) (λh5=>?_)
 ·have hc:¬ fcheck (.mk op nm fd a b ex args)=0:=λe=>Al_of_decide_eq_true h5 (by rw [e];rfl);refine .sr<|.az Z<|.tR<|?_
  refine y9 Z Z λW s=>⟨?_,s.ext⟩
  first
   | (unfold textF;rw [Al_if_neg hc];rfl)
   | (unfold textF;rw [Al_if_pos hc])
 have hc:fcheck (.mk op nm fd a b ex args)=0:=by have:=Al_of_decide_eq_false h5;omega
 obtain ⟨hk,hF⟩:=fck_ok hc;refine .sk<|.tN<|.sr<|.yw (.loadW Z Fx.agg35 Hm Z)<|.yw (.call Fx.call48 Z (λW s=>ftext_any H G gq (.mk op nm fd a b ex args) _ W h hF (Al_Nat_le_trans (fmT_len _ (rep_nlF h)) (by omega)) s.agr))<|.az Z<|?_
 refine y9 Z Z λW s=>⟨?_,s.ext⟩
 first
  | (unfold textF;rw [Al_if_neg hc];rfl)
  | (unfold textF;rw [Al_if_pos hc])
theorem u8d (c k:UInt8):decide (((c.toNat:Nat):Int)=(k.toNat:Nat))=decide (c=k):=by
 rw [Al_Bool_eq_iff_iff,Al_decide_eq_true_eq,Al_decide_eq_true_eq];exact ⟨λh=>Al_UInt8_toNat_inj.1 (by omega),λh=>by rw [h]⟩
theorem blank_any (c:UInt8) (w:World):Calls prg 147 #[byteV c] w λr w'=>r=.returned (.bool (blkB c))/\Ext w w':=by
 refine y6 func147 Z ntmps147 Z ?_;refine .sr<|.a Z Z<|.ns<|.mv Z<|.yw (.cast (.eql Z Z) (congrArg Value.bool (u8d c 32)))<|.mv Z<|.b2 (λh5=>?_) (λh5=>?_)
 ·refine .gG<|.gG<|.yw (.pickT Z Z)<|.mv Z<|.gG<|.gG<|.yw (.pickT Z Z)<|.mv Z<|.gG<|.gG<|.yw (.pickT Z Z)<|.az Z<|?_
  refine y9 Z Z λW s=>⟨?_,s.ext⟩
  first
   | (unfold blkB;rw [h5];rfl)
   | (unfold blkB;rw [h5,h9];rfl)
   | (unfold blkB;rw [h5,h9,h13];rfl)
 refine .gy (.move Z)<|.gy (.cast (.eql Z Z) (congrArg Value.bool (u8d c 9)))<|.yw (.pickF Z Z)<|.mv Z<|.b2 (λh9=>?_) (λh9=>?_)
 ·refine .gG<|.gG<|.yw (.pickT Z Z)<|.mv Z<|.gG<|.gG<|.yw (.pickT Z Z)<|.az Z<|?_
  refine y9 Z Z λW s=>⟨?_,s.ext⟩
  first
   | (unfold blkB;rw [h5];rfl)
   | (unfold blkB;rw [h5,h9];rfl)
   | (unfold blkB;rw [h5,h9,h13];rfl)
 refine .gy (.move Z)<|.gy (.cast (.eql Z Z) (congrArg Value.bool (u8d c 10)))<|.yw (.pickF Z Z)<|.mv Z<|.b2 (λh13=>?_) (λh13=>?_)
 ·refine .gG<|.gG<|.yw (.pickT Z Z)<|.az Z<|?_
  refine y9 Z Z λW s=>⟨?_,s.ext⟩
  first
   | (unfold blkB;rw [h5];rfl)
   | (unfold blkB;rw [h5,h9];rfl)
   | (unfold blkB;rw [h5,h9,h13];rfl)
 refine .gy (.move Z)<|.gy (.cast (.eql Z Z) (congrArg Value.bool (u8d c 13)))<|.yw (.pickF Z Z)<|.az Z<|?_
 refine y9 Z Z λW s=>⟨?_,s.ext⟩
 first
  | (unfold blkB;rw [h5];rfl)
  | (unfold blkB;rw [h5,h9];rfl)
  | (unfold blkB;rw [h5,h9,h13];rfl)
def notNl (c:UInt8):Bool:=!decide (c=10)
theorem u8n (c k:UInt8):decide (¬ ((c.toNat:Nat):Int)=(k.toNat:Nat))=!decide (c=k):=by rw [<-u8d,decide_not]
theorem skip1_any (c:UInt8) (w:World):Calls prg 149 #[byteV c] w λr w'=>r=.returned (.bool (notNl c))/\Ext w w':=by
 refine y6 func149 Z ntmps149 Z ?_;refine .sr<|.a Z Z<|.ns<|.mv Z<|.yw (.cast (.neq Z Z) (congrArg Value.bool (u8n c 10)))<|.az Z<|?_
 exact y9 Z Z λW s=>⟨Z,s.ext⟩
theorem pre_cons (q:UInt8->Bool) (c:UInt8) (r:Str):pre q (c::r)=if q c then pre q r+1 else 0:=by
 unfold pre;rw [Al_List_takeWhile_cons]
 split <;> simp
theorem skip_b:∀ (m:Str),skipS false (m.drop (pre blkB m))=skipS false m
 | []=>rfl
 | c::r=>by
  rw [pre_cons]
  split
  ·rename_i h;rw [Al_List_drop_succ_cons,skip_b r,skipS_blk h]
  ·rfl
theorem skip_c:∀ (m:Str),skipS false (m.drop (pre notNl m))=skipS true m
 | []=>by rw [List.drop_nil,skipS_nil,skipS_nil]
 | c::r=>by
  rw [pre_cons]
  split
  ·rename_i h;unfold notNl at h;rw [Al_List_drop_succ_cons,skip_c r,skipS_com (by simpa using h)]
  ·rename_i h;have e:c=10:=by unfold notNl at h;simpa using h
   subst e;rw [Al_List_drop_zero,skipS_end]
theorem pre_hd (q:UInt8->Bool):∀ (m:Str) (c:UInt8) (r:Str),m.drop (pre q m)=c::r->q c=false
 | [],c,r,h=>by cases h
 | x::m,c,r,h=>by
  rw [pre_cons] at h
  split at h
  ·exact pre_hd q m c r (by simpa using h)
  ·rename_i hx;rw [Al_List_drop_zero] at h;injection h with h1 _
   subst h1;simpa using hx
theorem skip_two {m:Str} (h:hasP m [47,47]=true):skipS false (m.drop (pre notNl m))=skipS false m/\1<=pre notNl m:=by
 rw [hasP_pre] at h;obtain ⟨r,rfl⟩:=Al_List_isPrefixOf_iff_prefix.1 h;refine ⟨?_,?_⟩
 ·rw [skip_c];exact (skipS_two r).symm
 ·show 1<=pre notNl (47::47::r);rw [pre_cons,Al_if_pos (by decide)];omega
theorem skip_stop {m:Str} (h:hasP (m.drop (pre blkB m)) [47,47]=false):skipS false m=m.drop (pre blkB m):=by
 rw [<-skip_b];cases e:m.drop (pre blkB m) with
 | nil=>rw [skipS_nil]
 | cons c r =>
  refine skipS_stop (pre_hd _ _ _ _ e) ?_;rintro ⟨rfl,h2⟩;rw [e] at h;cases r with
  | nil=>cases h2
  | cons d r =>
   obtain rfl:d=47:=Al_Option_some_inj h2;rw [hasP_pre] at h;rw [show ([47,47]:Str).isPrefixOf (47::47::r)=true by simp [List.isPrefixOf]] at h;cases h
theorem skipN_at {t:Str} {o:Nat} (ho:o<=t.length) (h:skipS false t=t.drop o):skipN t=o:=by
 unfold skipN;rw [h,Al_List_length_drop];omega
theorem lskip_any (t:Str) (hl:t.length<=9223372036854775807) (w:World):Calls prg 96 #[strV t] w λr w'=>r=.returned (iN (skipN t))/\Ext w w':=by
 refine y6 func96 Z ntmps96 Z ?_;refine .sr<|.a Z Z<|.ns<|.aq Z<|.bk<|.lp (X:=Nat) [(0,_)] ⟨Z,Jt⟩ [] (λo=>[(3,iN o)]) (λo=>(⟨λ_=>none,0⟩:Hp)) (λo=>[]) (λo=>o<=t.length/\skipS false (t.drop o)=skipS false t) (λo=>t.length - o) 0 (λ_ s=>s) ⟨Z,Jt⟩ ⟨Al_Nat_zero_le _,Z⟩ λo hC=>?_
 obtain ⟨ho,hs⟩:=hC;have hp1:=pre_le blkB (t.drop o);rw [Al_List_length_drop] at hp1;replace hp1:(o+(pre blkB (t.drop o)))<=t.length:=by omega
 refine .bk<|.sm Z<|.mv Z<|.mv Z<|.yw (.dropS Fx.str9 Z Z (lo:=o) Z ho)<|.yw (.call Fx.call146 Z (λW s=>prefix_any 147 blkB Fx.call147 blank_any _ (by rw [Al_List_length_drop];omega) W))<|.yw (.add Z Z (c:=(((o+(pre blkB (t.drop o))):Nat):Int)) ((w6 (by omega)).trans (by omega)))<|.aq Z<|.sq<|.sm Z<|.mv Z<|.yw (.dropS Fx.str9 Z Z (lo:=(o+(pre blkB (t.drop o)))) Z hp1)<|.yw (.call Fx.call148 Z (λW s=>hasPrefix_any _ [47,47] W))<|.yw (.not Z)<|.nt<|.cd Z (λh14=>?_) (λh14=>?_)
 ·have hh:hasP (t.drop (o+(pre blkB (t.drop o)))) [47,47]=false:=by simpa using h14
  refine .sm Z<|.az Z<|.tR<|.bR<|.tR<|.bR<|?_
  exact y9 Z Z λW s=>⟨by rw [skipN_at hp1 (by rw [<-hs,<-Al_List_drop_drop];exact skip_stop (by rw [Al_List_drop_drop];exact hh))],s.ext⟩
 have hh:hasP (t.drop (o+(pre blkB (t.drop o)))) [47,47]=true:=by simpa using h14
 obtain ⟨hs2,hg2⟩:=skip_two hh;have hp2:=pre_le notNl (t.drop (o+(pre blkB (t.drop o))));rw [Al_List_length_drop] at hp2;exact .sk<|.tN<|.rg<|.mv Z<|.mv Z<|.mv Z<|.yw (.dropS Fx.str9 Z Z (lo:=(o+(pre blkB (t.drop o)))) Z hp1)<|.yw (.call Fx.call146 Z (λW s=>prefix_any 149 notNl Fx.call149 skip1_any _ (by rw [Al_List_length_drop];omega) W))<|.yw (.add Z Z (c:=(((o+(pre blkB (t.drop o)))+(pre notNl (t.drop (o+(pre blkB (t.drop o))))):Nat):Int)) ((w6 (by omega)).trans (by omega)))<|.a Z Z<|.nl<|.bN<|.tN<|.ag ((o+(pre blkB (t.drop o)))+(pre notNl (t.drop (o+(pre blkB (t.drop o)))))) ⟨Z,Jt⟩ ⟨Z,Jt⟩ (λ_ s=>s) ⟨by omega,by rw [<-Al_List_drop_drop,hs2,<-Al_List_drop_drop,skip_b,hs]⟩ (by omega)
theorem lex_any (H:Hp) (t:Str) (w:World) (hA:Agr H w):Calls prg 54 #[strV t] w λr w'=>∃ (b:Nat) (H':Hp),MemAt H' b 0 [strV t]/\r=.returned (.func (.func 95) #[] #[.pointer (some ⟨b,0,none⟩)])/\Grow H w H' w':=by
 refine Sx.enter (H:=H) func54 rfl ntmps54 rfl hA ?_;refine .sr<|.bx Z Z Z λb1=>.a Z Z<|.ns<|.yw (.mkF Z Z)<|.az Z<|?_
 refine freezeBox λH1 u1 m1=>?_;exact y9 Z Z λW s=>⟨b1,H1,m1,Z,u1.grow s⟩
abbrev TkS:={x:Tk // x.t.length<=1000000}
theorem lex_seq (H:Hp) (G:Gl H) (t:Str) (hl:t.length<=1000000000000000000) (hs:∀ x∈lexR t,x.t.length<=1000000) (b:Nat) (hm:MemAt H b 0 [strV t]) (w:World) (hA:Agr H w) :
 SeqStopsK Fence.wide 8 prg 95 #[.pointer (some ⟨b,0,none⟩)] (λx:TkS=>#[.agg (cTk .u8 x.1).toArray]) (KpH H) (λxs=>xs.map (·.1)=lexR t) (λ_=>True) (t.length+1) w:=by
 refine Sx.seqStops (lb:=[.pointer (some ⟨b,0,none⟩)]) func95 rfl ntmps95 rfl (λW hW=>hA.ext hW) ?_;intro l Jg Jx W hJs hJxs hY hJ0;refine .sr<|.yw (.loadM Z Fx.agg9 hm (k:=0) Z Z)<|.yw (.call Fx.call96 Z (λW s=>lskip_any t (by omega) W))<|.aq Z<|.bk<|.lj (X:=Nat × List TkS) (λz=>[(0,.func (.yield l) #[] #[]),(1,.pointer (some ⟨b,0,none⟩)),(3,iN z.1)]) (λz=>Jg z.2) (λz=>z.1<=t.length/\z.2.length<=z.1/\z.2.map (·.1)++toks z.1 (t.drop z.1)=lexR t) (λz=>t.length - z.1) (skipN t,[]) ⟨skipN_le t,Al_Nat_zero_le _,(lexR_toks t).symm⟩ ⟨Z,Z,Z,Jt⟩ hJ0 λz w1 hC hJ1=>?_
 obtain ⟨o,pre1⟩:=z;obtain ⟨ho,hpl,htk⟩:=hC;dsimp only at ho hpl htk hJ1|-;refine .sq<|.sm Z<|.yw (.loadM Z Fx.agg9 hm (k:=0) Z Z)<|.yw (.lenS Fx.str9 Z)<|.yw (.lss Z Z)<|.nt<|.ce Z (λh11=>?_) (λh11=>?_)
 ·have hlt:o<t.length:=by omega
  have hm0:t.drop o≠[]:=by intro e;have:=congrArg List.length e;rw [Al_List_length_drop] at this;simp at this;omega
  have hrk:=readK_bnd hm0;rw [Al_List_length_drop] at hrk;have hx5:((t.drop o).take (readK (t.drop o)).2).length<=1000000:=hs ⟨(readK (t.drop o)).1,(t.drop o).take (readK (t.drop o)).2,o⟩ (by rw [<-htk,toks_cons hm0];simp);refine .sk<|.tN<|.sq<|.bk<|.sr<|.yw (.loadM Z Fx.agg9 hm (k:=0) Z Z)<|.mv Z<|.yw (.dropS Fx.str9 Z Z (lo:=o) Z (by omega))<|.yw (.call Fx.call97 Z (λW s=>read_any H G (t.drop o) (by rw [Al_List_length_drop];omega) hm0 W s.agr))<|.mv Z<|.yw (.extract Z Z)<|.yw (.extract Z Z)<|.a Z Z<|.aq Z<|.sq<|.sq<|.rgW 8<|.mI Z Z<|.mI Z Z<|.yvI (.loadM Z Fx.agg9 hm (k:=0) Z Z) Z<|.mI Z Z<|.mI Z Z<|.mI Z Z<|.yvI (.add Z Z (c:=((o+(readK (t.drop o)).2:Nat):Int)) ((w6 (by omega)).trans (by omega))) Z<|.yvI (.cast (.midS Fx.str9 Z Z Z (lo:=o) (hi:=o+(readK (t.drop o)).2) Z Z (by omega) (by omega)) (by rw [Al_List_drop_take,Al_Nat_add_sub_cancel_left])) Z<|.mI Z Z<|.yvI (.build Z (Fx.bld108_0_1_2 _ _ _)) Z<|.yd Z Z Z (λW s=>hY pre1 ⟨⟨(readK (t.drop o)).1,(t.drop o).take (readK (t.drop o)).2,o⟩,hx5⟩ W (hJs _ _ _ hJ1 s.ext) (by omega)) (λw2 hj2=>?_) (λw2 hj2=>?_)
  ·have hsd:=skipN_le ((t.drop o).drop (readK (t.drop o)).2);rw [Al_List_length_drop,Al_List_length_drop] at hsd;exact .yvI (.not Z) Z<|.nlI<|.tN<|.cF Z<|.sk<|.tN<|.rg<|.mv Z<|.mv Z<|.yw (.add Z Z (c:=((o+(readK (t.drop o)).2:Nat):Int)) ((w6 (by omega)).trans (by omega)))<|.a Z Z<|.nl<|.bN<|.tN<|.rg<|.mv Z<|.yw (.loadM Z Fx.agg9 hm (k:=0) Z Z)<|.mv Z<|.yw (.cast (.dropS Fx.str9 Z Z (lo:=o+(readK (t.drop o)).2) Z (by omega)) (by rw [<-Al_List_drop_drop];rfl))<|.yw (.call Fx.call96 Z (λW s=>lskip_any ((t.drop o).drop (readK (t.drop o)).2) (by rw [Al_List_length_drop,Al_List_length_drop];omega) W))<|.yw (.add Z Z (c:=((o+(readK (t.drop o)).2+skipN ((t.drop o).drop (readK (t.drop o)).2):Nat):Int)) ((w6 (by omega)).trans (by omega)))<|.aq Z<|.aj (x:=(o,pre1)) (o+(readK (t.drop o)).2+skipN ((t.drop o).drop (readK (t.drop o)).2),pre1++[⟨⟨(readK (t.drop o)).1,(t.drop o).take (readK (t.drop o)).2,o⟩,hx5⟩]) ⟨by dsimp only;omega,by dsimp only;rw [Al_List_length_append];simp;omega,by dsimp only;rw [<-htk,Al_List_map_append,Al_List_append_assoc];congr 1;rw [toks_cons hm0,show (t.drop o).drop ((readK (t.drop o)).2+skipN ((t.drop o).drop (readK (t.drop o)).2))=t.drop (o+(readK (t.drop o)).2+skipN ((t.drop o).drop (readK (t.drop o)).2)) by rw [Al_Nat_add_assoc];exact Al_List_drop_drop];rfl⟩ (by dsimp only;omega) hj2 ⟨Z,Z,Z,Jt⟩
  refine .yvI (.not Z) Z<|.nlI<|.tN<|.cT Z<|.rt<|.tR<|.bR<|.tR<|.tR<|.bR<|?_
  refine y7 Z .nil rfl λW s=>⟨⟨_,Z⟩,.inr ⟨_,Jt,hJxs _ _ _ hj2 s.ext⟩⟩
 have hoe:o=t.length:=by omega
 refine .ex<|.tE<|.tE<|.bE<|?_
 refine retN (.inr Z) rfl .nil rfl λW s=>⟨⟨_,Z⟩,.inl ⟨pre1,?_,hJs _ _ _ hJ1 s.ext⟩⟩;rw [<-htk,hoe,List.drop_length,toks_nil,Al_List_append_nil]
end Go.Proofs.YtidclioghdbphaaGreatDoor
