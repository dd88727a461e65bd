/- Texts of the proof, one behind the other. -/
import Derived.Test.YtidclioghdbphaaGreatDoorMd
set_option linter.all false
set_option maxRecDepth 100000
namespace Go.Proofs.YtidclioghdbphaaGreatDoor
open Go.RowKit Go.Par Go.Sx Tryz
theorem WS:∀ l,aZ4 l=l.map λe=>(e.op,tmT e)
 | []=>by rw [aZ4];rfl
 | e::r=>by rw [aZ4,WS r];rfl
theorem YM:∀ l,bI7 l=l.map λf=>(f.op,fmT f)
 | []=>by rw [bI7];rfl
 | e::r=>by rw [bI7,YM r];rfl
theorem wG {op:UInt8} {nm:Str} {n:Int64} {args:List Ex} :tmT (.mk op nm n args)=aA6 op nm n (args.map λe=>(e.op,tmT e)):=by rw [tmT,WS]
variable {a:Int64}
theorem vH {op:UInt8} {nm fd:Str} {b:Int64} {ex:List Ex} {args:List Fm} :fmT (.mk op nm fd a b ex args)=PA (.mk op nm fd a b ex args) (args.map λf=>(f.op,fmT f)):=by rw [fmT,YM]
theorem hd0 {α β:Type} {f:α->β} {l:List α} {d:β} (h:0<l.length):(l.map f).headD d=f l[0]:=by
 cases l with
 | nil=>exact absurd h (Nat.lt_irrefl _)
 | cons a r=>rfl
theorem hd1 {α β:Type} {f:α->β} {l:List α} {d:β} (h:1<l.length):((l.map f).drop 1).headD d=f l[1]:=by
 match l,h with
 | _::b::r,_=>rfl
theorem cM8 {op:UInt8} (h:op=14\/op=15):tlv op=4:=by unfold tlv;rw [aK h]
theorem cE5 {op:UInt8} (h:op=11\/op=12\/op=13):tlv op=5:=by unfold tlv;rw [aA (by rcases h with rfl | rfl | rfl <;> decide),aK h]
theorem cS3 {op:UInt8} (h:op=9):tlv op=6:=by subst h;rfl
theorem cS2 {op:UInt8} (h1:¬ op=14) (h2:¬ op=15) (h3:¬ op=11) (h4:¬ op=12) (h5:¬ op=13) (h6:¬ op=9):tlv op=7:=by
 unfold tlv;rw [aA (by rintro (h | h);exact h1 h;exact h2 h),aA (by rintro (h | h | h);exact h3 h;exact h4 h;exact h5 h),aA h6]
theorem JF (op:UInt8):tlv op<=7:=by
 unfold tlv
 repeat' split
 all_goals omega
section
variable {op:UInt8} {nm:Str} {n:Int64} {args:List Ex}
theorem tm1 (h:op=1):tmT (.mk op nm n args)=Lib.itoa n.toInt:=by rw [wG];subst h;rfl
theorem tm4 (h:op=4):tmT (.mk op nm n args)=[110,111,119]:=by rw [wG];subst h;rfl
theorem tm5 (h:op=5):tmT (.mk op nm n args)=nm:=by rw [wG];subst h;rfl
theorem tm6 (h:op=6) (h0:0<args.length):tmT (.mk op nm n args)=(nm++([91]:Str)++tmT args[0]++([93]:Str):Str):=by
 rw [wG];subst h;show (nm++([91]:Str)++_++([93]:Str):Str)=_;rw [hd0 h0]
theorem tm8 (h:op=8):tmT (.mk op nm n args)=(([115,105,122,101,32]:Str)++nm):=by rw [wG];subst h;rfl
theorem tm9 (h:op=9) (h0:0<args.length):tmT (.mk op nm n args)=(([45]:Str)++wQ (decide (tlv args[0].op<6)) (tmT args[0]):Str):=by
 rw [wG];subst h;show (([45]:Str)++wQ _ _:Str)=_;rw [hd0 h0]
theorem tmb (h:op=11\/op=12\/op=13\/op=14\/op=15) (h0:0<args.length) (h1:1<args.length):tmT (.mk op nm n args)=(wQ (decide (tlv args[0].op<tlv op)) (tmT args[0])++([32]:Str)++vK op++([32]:Str)++wQ (decide (tlv args[1].op<tlv op+1)) (tmT args[1]):Str):=by
 rw [wG];unfold aA6;rw [hd0 h0,hd1 h1];rcases h with rfl | rfl | rfl | rfl | rfl <;> rfl
theorem tmn (h1:¬ op=1) (h4:¬ op=4) (h5:¬ op=5) (h6:¬ op=6) (h8:¬ op=8) (h9:¬ op=9) (hb:¬ (op=11\/op=12\/op=13\/op=14\/op=15)):tmT (.mk op nm n args)=[95]:=by
 rw [wG];unfold aA6;rw [aA h1,aA h4,aA h5,aA h6,aA h8,aA h9,aA hb]
end
theorem mP (b:Bool) (s:Str):s.length<=(wQ b s).length/\(wQ b s).length<=s.length+2:=by
 unfold wQ;cases b
 ·rw [aA aS];omega
 ·rw [aK rfl];simp only [aC,aF,aH];omega
variable {m:Nat}
theorem MB {l:List Str} (h:∀ x∈l,x.length<=m) (i:Nat):(l.getD i []).length<=m:=by
 rw [List.getD_eq_getElem?_getD];cases e:l[i]? with
 | none=>exact aN _
 | some x=>exact h x (Al_List_mem_of_getElem? e)
theorem xX (op:UInt8):(vK op).length<=2:=MB (l:=nE) aS _
theorem JB (op:UInt8):(iQ op).length<=8:=MB (l:=VC) aS _
theorem NL {op:UInt8} {nm:Str} {n:Int64} {args:List Ex} (h:op=6\/op=9) (hT:eI (.mk op nm n args)=true):args.length=1/\∀ a∈args,eI a=true:=by
 rw [CQ,aE,bD] at hT;refine ⟨?_,hT.2⟩;have h1:=hT.1;unfold WL at h1;simp only [aE,aB] at h1;have h2:=h1.1.1.1.2;rcases h with rfl | rfl
 ·exact Int.ofNat_inj.1 (h2.symm.trans aS)
 ·exact Int.ofNat_inj.1 (h2.symm.trans aS)
theorem aA8 {op:UInt8} {nm:Str} {n:Int64} {args:List Ex} (h:op=11\/op=12\/op=13\/op=14\/op=15) (hT:eI (.mk op nm n args)=true):args.length=2/\∀ a∈args,eI a=true:=by
 rw [CQ,aE,bD] at hT;refine ⟨?_,hT.2⟩;have h1:=hT.1;unfold WL at h1;simp only [aE,aB] at h1;have h2:=h1.1.1.1.2;rcases h with rfl | rfl | rfl | rfl | rfl <;> exact Int.ofNat_inj.1 (h2.symm.trans aS)
def nlE (e:Ex):Bool:=Ex.all (λe=>decide (e.nm.length<=1000000)) e
theorem HK (e:Ex) (hn:nlE e=true):(tmT e).length<=1000100 * e.count:=by
 induction e using Ex.ind with | _ op nm n args ih
 unfold nlE at hn;rw [uR,nS,aE,aB,bD] at hn;obtain ⟨hn,ha⟩:=hn;have hn':nm.length<=1000000:=hn
 have hx:∀ (l:List (UInt8 × Str)),l=args.map (λe=>(e.op,tmT e))->(l.headD (0,[])).2.length+((l.drop 1).headD (0,[])).2.length<=1000100 * Ex.counts args:=by
  rintro l rfl
  match args,ih,ha with
  | [],_,_=>exact aN _
  | [a],ih,ha =>
   have:=ih a (bH ..) (ha a (bH ..));rw [Ex.counts,Ex.counts];show (tmT a).length+0<=_;omega
  | a::b::r,ih,ha =>
   have h1:=ih a (bH ..) (ha a (bH ..));have h2:=ih b (cD _ (bH ..)) (ha b (cD _ (bH ..)));rw [Ex.counts,Ex.counts];show (tmT a).length+(tmT b).length<=_;omega
 have hx:=hx _ rfl;rw [nF,wG];unfold aA6;generalize args.map (λe=>(e.op,tmT e))=l at hx|-;have hi:=lU n;have p1:=(mP (decide (tlv (l.headD (0,[])).1<6)) (l.headD (0,[])).2).2;have p2:=(mP (decide (tlv (l.headD (0,[])).1<tlv op)) (l.headD (0,[])).2).2;have p3:=(mP (decide (tlv ((l.drop 1).headD (0,[])).1<tlv op+1)) ((l.drop 1).headD (0,[])).2).2;have p4:=xX op;generalize Ex.counts args=C at hx|-
 repeat' split
 all_goals (try simp only [aC,aF,aH]);omega
theorem OL (sep:Str):∀ l:List Str,Lib.join l sep=qM sep l
 | []=>rfl
 | [x]=>Lib.join_one x sep
 | x::y::r=>by
  show _=x++sep++qM sep (y::r);rw [<-OL sep (y::r),Lib.join_cons,Lib.join_cons];simp [Lib.joinTail,aV]
theorem MN (sep:Str):∀ l:List Str,(qM sep l).length<=(l.map List.length).sum+l.length * sep.length
 | []=>aN _
 | [x]=>by show x.length<=x.length+0+1 * sep.length;omega
 | x::y::r=>by
  have h:=MN sep (y::r);show (x++sep++qM sep (y::r)).length<=_;rw [aC,aC,eP,List.sum_cons,aF (a:=x),vB];omega
theorem bH6 (sep:Str):∀ (l:List Str),∀ x∈l,x.length<=(qM sep l).length
 | [y],x,h=>by rw [bS.1 h];exact aY _
 | y::z::r,x,h=>by
  show _<=(y++sep++qM sep (z::r)).length;rw [aC,aC];rcases bM.1 h with rfl | h
  ·omega
  ·have:=bH6 sep (z::r) x h;omega
section
variable {op:UInt8} {nm fd:Str} {a b:Int64} {ex:List Ex} {args:List Fm} {e0:Ex}
theorem wJ (h:Fm.all jJ (.mk op nm fd a b ex args)=true):jJ (.mk op nm fd a b ex args)=true/\∀ g∈args,Fm.all jJ g=true:=by
 rw [kF,aE,bD] at h;exact h
theorem kJ (h:jJ (.mk op nm fd a b ex args)=true):¬ (cK op).lv=0/\args.length=(cK op).ar/\vN (.mk op nm fd a b ex args)=true/\DU (.mk op nm fd a b ex args)=true:=by
 unfold jJ at h;rw [aE,aE,aE,aE,aE,aB,aB] at h;exact ⟨h.1.1.1.1.1,h.1.1.2,h.2,h.1.2⟩
theorem VE (h:jJ (.mk op nm fd a b ex args)=true):op.toNat<=18:=by
 have h1:=(kJ h).1;exact Classical.byContradiction λe=>h1 (by unfold cK;rw [List.getD_eq_getElem?_getD,List.getElem?_eq_none (by show 19<=op.toNat;omega)];rfl)
theorem bI3 (h:jJ (.mk op nm fd a b ex args)=true) (q:op=7):ex.length<=4/\∀ e∈ex,eI e=true\/e.op=0:=by
 have h1:=(kJ h).2.2.1;subst q;unfold vN at h1;rw [aK (show (Fm.mk 7 nm fd a b ex args).op=7 from rfl),aE,aB,bD] at h1;refine ⟨h1.1,λe he=>?_⟩;have h2:=h1.2 e he;rw [aW] at h2;rcases h2 with h2 | h2
 ·obtain ⟨o,n,m,al⟩:=e;unfold CM at h2;simp only [aE,aB] at h2;exact .inr h2.1.1.1
 ·exact .inl h2
theorem YH (h:jJ (.mk op nm fd a b ex args)=true) (q:¬ op=7):ex.length=(cK op).ex/\(if op=3 then KA (ex.headD (.mk 0 [] 0 [])) else if op=5 then eI (ex.headD (.mk 0 [] 0 [])) else if op=18 then decide ((ex.headD (.mk 0 [] 0 [])).op=1) && eI (ex.headD (.mk 0 [] 0 [])) && decide ((ex.headD (.mk 0 [] 0 [])).n.toInt<=32) else true)=true:=by
 have h1:=(kJ h).2.2.1;unfold vN at h1;rw [aA (show ¬ (Fm.mk op nm fd a b ex args).op=7 from q),aE,aB] at h1;exact h1
theorem YI (h:jJ (.mk op nm fd a b ex args)=true) (q:op=5\/op=18):∃ e0,ex=[e0]/\eI e0=true:=by
 have h1:=YH h (by rcases q with rfl | rfl <;> decide);have hl:ex.length=1:=h1.1.trans (by rcases q with rfl | rfl <;> rfl);obtain ⟨e0,rfl⟩:=List.length_eq_one_iff.1 hl;refine ⟨e0,Z,?_⟩;have h2:=h1.2;rcases q with rfl | rfl
 ·exact h2
 ·rw [aA aS,aA aS,aK rfl,aE,aE] at h2;exact h2.1.2
theorem bI4 (h:jJ (.mk op nm fd a b ex args)=true) (q:op=3):∃ op0 nm0 m0 args0,ex=[.mk op0 nm0 m0 args0]/\(16<=op0.toNat/\op0.toNat<=21)/\args0.length=2/\∀ a∈args0,eI a=true:=by
 have h1:=YH h (by subst q;decide);have hl:ex.length=1:=h1.1.trans (by subst q;rfl);obtain ⟨⟨op0,nm0,m0,args0⟩,rfl⟩:=List.length_eq_one_iff.1 hl;refine ⟨op0,nm0,m0,args0,Z,?_⟩;have h2:=h1.2;rw [aK q] at h2;change KA (.mk op0 nm0 m0 args0)=true at h2;unfold KA at h2;simp only [aE,aB] at h2;rw [tO,bD] at h2;exact ⟨⟨h2.1.1.1.1,h2.1.1.1.2⟩,h2.2.2,h2.2.1⟩
theorem fx3 {op0:UInt8} {nm0:Str} {m0:Int64} {args0:List Ex} (h:op=3) (he:ex=[.mk op0 nm0 m0 args0]) (h0:0<args0.length) (h1:1<args0.length):fmT (.mk op nm fd a b ex args)=(tmT args0[0]++([32]:Str)++vK op0++([32]:Str)++tmT args0[1]:Str):=by
 match args0,h1 with
 | x::y::r,_=>rw [vH];subst h he;rfl
theorem fx4 (h:op=4):fmT (.mk op nm fd a b ex args)=(nm++([46]:Str)++fd:Str):=by rw [vH];subst h;rfl
theorem fx5 (h:op=5) (he:ex=[e0]):fmT (.mk op nm fd a b ex args)=(iQ op++([32]:Str)++nm++([46]:Str)++fd++([91]:Str)++tmT e0++([93]:Str):Str):=by rw [vH];subst h he;rfl
theorem fx6 (h:op=6):fmT (.mk op nm fd a b ex args)=(iQ op++([32]:Str)++nm:Str):=by rw [vH];subst h;rfl
theorem fx7 (h:op=7):fmT (.mk op nm fd a b ex args)=(iQ op++([32]:Str)++nm++([46]:Str)++fd++([40]:Str)++qM ([44,32]:Str) (ex.map tmT)++([41]:Str):Str):=by rw [vH];subst h;rfl
def pfW (k:Nat) (f:Fm):Str:=wQ (decide ((cK f.op).lv<k)) (fmT f)
theorem fxu (h:op=8\/op=12\/op=13\/op=14) (h0:0<args.length):fmT (.mk op nm fd a b ex args)=(iQ op++wF (.mk op nm fd a b ex args)++([32]:Str)++pfW 5 args[0]:Str):=by
 rw [vH];unfold PA pfW;rw [hd0 h0];rcases h with rfl | rfl | rfl | rfl <;> rfl
theorem fxq (h:op=16\/op=17) (h0:0<args.length):fmT (.mk op nm fd a b ex args)=(iQ op++DX (.mk op nm fd a b ex args)++([32]:Str)++pfW 5 args[0]:Str):=by
 rw [vH];unfold PA pfW;rw [hd0 h0];rcases h with rfl | rfl <;> rfl
theorem bW6 (h:op=18) (he:ex=[e0]) (h0:0<args.length):fmT (.mk op nm fd a b ex args)=(iQ op++DX (.mk op nm fd a b ex args)++([32,40]:Str)++fmT args[0]++([41,32,62,61,32]:Str)++tmT e0:Str):=by
 rw [vH];unfold PA;rw [hd0 h0];subst h he;rfl
theorem fxb (h:op=15\/op=9\/op=10\/op=11) (h0:0<args.length) (h1:1<args.length):fmT (.mk op nm fd a b ex args)=(pfW (cK op).lv args[0]++([32]:Str)++iQ op++wF (.mk op nm fd a b ex args)++([32]:Str)++pfW ((cK op).lv+1) args[1]:Str):=by
 rw [vH];unfold PA pfW;rw [hd0 h0,hd1 h1];rcases h with rfl | rfl | rfl | rfl <;> rfl
theorem fxn (h3:¬ op=3) (h4:¬ op=4) (h5:¬ op=5) (h6:¬ op=6) (h7:¬ op=7) (hu:¬ (op=8\/op=12\/op=13\/op=14)) (hq:¬ (op=16\/op=17)) (h18:¬ op=18) (hb:¬ (op=15\/op=9\/op=10\/op=11)):fmT (.mk op nm fd a b ex args)=iQ op:=by
 rw [vH];unfold PA;rw [aA (show ¬ (Fm.mk op nm fd a b ex args).op=3 from h3),aA (show ¬ (Fm.mk op nm fd a b ex args).op=4 from h4),aA (show ¬ (Fm.mk op nm fd a b ex args).op=5 from h5),aA (show ¬ (Fm.mk op nm fd a b ex args).op=6 from h6),aA (show ¬ (Fm.mk op nm fd a b ex args).op=7 from h7),aA (show ¬ ((Fm.mk op nm fd a b ex args).op=8\/(Fm.mk op nm fd a b ex args).op=12\/(Fm.mk op nm fd a b ex args).op=13\/(Fm.mk op nm fd a b ex args).op=14) from hu),aA (show ¬ ((Fm.mk op nm fd a b ex args).op=16\/(Fm.mk op nm fd a b ex args).op=17) from hq),aA (show ¬ (Fm.mk op nm fd a b ex args).op=18 from h18),aA (show ¬ ((Fm.mk op nm fd a b ex args).op=15\/(Fm.mk op nm fd a b ex args).op=9\/(Fm.mk op nm fd a b ex args).op=10\/(Fm.mk op nm fd a b ex args).op=11) from hb)]
 rfl
theorem ar1 (h:op=8\/op=12\/op=13\/op=14\/op=16\/op=17\/op=18):(cK op).ar=1:=by rcases h with rfl | rfl | rfl | rfl | rfl | rfl | rfl <;> rfl
theorem ar2 (h:op=15\/op=9\/op=10\/op=11):(cK op).ar=2:=by rcases h with rfl | rfl | rfl | rfl <;> rfl
theorem TS:(wF (.mk op nm fd a b ex args)).length<=46:=by
 unfold wF
 split
 ·exact aN _
 ·have h1:=lU (Fm.mk op nm fd a b ex args).a;have h2:=lU (Fm.mk op nm fd a b ex args).b;simp only [aC,aF,aH];omega
theorem MY:(DX (.mk op nm fd a b ex args)).length<=nm.length+49:=by
 have h1:=lU (Fm.mk op nm fd a b ex args).a;have h2:=lU (Fm.mk op nm fd a b ex args).b;show (([32]:Str)++nm++_++_++_++_).length<=_;simp only [aC,aF,aH];omega
theorem BK (k:Nat) (f:Fm):(fmT f).length<=(pfW k f).length/\(pfW k f).length<=(fmT f).length+2:=mP _ _
end
def nlF (f:Fm):Bool:=Fm.all (λf=>decide (f.nm.length<=1000000) && decide (f.fd.length<=1000000) && f.ex.all nlE) f
theorem WT:∀ l:List Ex,(∀ e∈l,nlE e=true)->((l.map tmT).map List.length).sum<=1000100 * Ex.counts l
 | [],_=>aN _
 | e::r,h=>by
  rw [eP,eP,List.sum_cons,Ex.counts];have h1:=HK e (h e (bH ..));have h2:=WT r λx hx=>h x (cD _ hx);omega
theorem aZ5 (e:Ex) (h:nlE e=true):(tmT (ex0 e)).length+(tmT (ex1 e)).length<=1000100 * e.count:=by
 obtain ⟨op,nm,n,args⟩:=e;unfold nlE at h;rw [uR,nS,aE,bD] at h;rw [nF];have hz:tmT zE=[95]:=wG
 match args,h.2 with
 | [],_=>show (tmT zE).length+(tmT zE).length<=_;rw [hz,Ex.counts];decide
 | [x],h =>
  have:=HK x (h x (bH ..));show (tmT x).length+(tmT zE).length<=_;rw [hz,Ex.counts,Ex.counts];show _+1<=_;omega
 | x::y::r,h =>
  have h1:=HK x (h x (bH ..));have h2:=HK y (h y (cD _ (bH ..)));show (tmT x).length+(tmT y).length<=_;rw [Ex.counts,Ex.counts];omega
theorem bI9 (F:Fm) (l:List (UInt8 × Str)) (C D:Nat) (h1:F.nm.length<=1000000) (h2:F.fd.length<=1000000) (he:(tmT (exH F)).length+(tmT (ex0 (exH F))).length+(tmT (ex1 (exH F))).length<=2000200 * D+3)
 (hj:(qM ([44,32]:Str) (F.ex.map tmT)).length<=1000102 * D) (hx:(l.headD (0,[])).2.length+((l.drop 1).headD (0,[])).2.length<=3000200 * C) (w1:(wF F).length<=46) (w2:(DX F).length<=F.nm.length+49):(PA F l).length<=3000200 * (D+C+1):=by
 have w3:=JB F.op;have w4:=xX (exH F).op;have p1:=(mP (decide ((cK (l.headD (0,[])).1).lv<5)) (l.headD (0,[])).2).2;have p2:=(mP (decide ((cK (l.headD (0,[])).1).lv<(cK F.op).lv)) (l.headD (0,[])).2).2;have p3:=(mP (decide ((cK ((l.drop 1).headD (0,[])).1).lv<(cK F.op).lv+1)) ((l.drop 1).headD (0,[])).2).2;unfold PA
 repeat' split
 all_goals (try simp only [aC,aF,aH]);omega
theorem bX3 (f:Fm) (hn:nlF f=true):(fmT f).length<=3000200 * f.count:=by
 induction f using Fm.ind with | _ op nm fd a b ex args ih
 unfold nlF at hn;rw [kF,aE,aE,aE,aB,aB,bD,bD] at hn;obtain ⟨⟨⟨hn,hf⟩,he⟩,ha⟩:=hn;have hn':nm.length<=1000000:=hn;have hf':fd.length<=1000000:=hf;have he':∀ e∈ex,nlE e=true:=he
 have hx:∀ (l:List (UInt8 × Str)),l=args.map (λf=>(f.op,fmT f))->(l.headD (0,[])).2.length+((l.drop 1).headD (0,[])).2.length<=3000200 * Fm.counts args:=by
  rintro l rfl
  match args,ih,ha with
  | [],_,_=>exact aN _
  | [a],ih,ha =>
   have:=ih a (bH ..) (ha a (bH ..));rw [Fm.counts,Fm.counts];show (fmT a).length+0<=_;omega
  | a::b::r,ih,ha =>
   have h1:=ih a (bH ..) (ha a (bH ..));have h2:=ih b (cD _ (bH ..)) (ha b (cD _ (bH ..)));rw [Fm.counts,Fm.counts];show (fmT a).length+(fmT b).length<=_;omega
 have hx:=hx _ rfl
 have he0:(tmT (exH (.mk op nm fd a b ex args))).length+(tmT (ex0 (exH (.mk op nm fd a b ex args)))).length+(tmT (ex1 (exH (.mk op nm fd a b ex args)))).length<=2000200 * Ex.counts ex+3:=by
  have hz:tmT zE=[95]:=wG
  match ex,he' with
  | [],_ =>
   show (tmT zE).length+(tmT zE).length+(tmT zE).length<=_;rw [hz];show 3<=_;omega
  | e::r,h =>
   have h1:=HK e (h e (bH ..));have h2:=aZ5 e (h e (bH ..));show (tmT e).length+(tmT (ex0 e)).length+(tmT (ex1 e)).length<=_;rw [Ex.counts];omega
 have hj:=MN ([44,32]:Str) (ex.map tmT);have hs:=WT ex he';have hl2:=aF0 ex;rw [aP] at hj;rw [iA,vH];have e2:([44,32]:Str).length=2:=rfl;rw [e2] at hj;exact bI9 _ _ _ _ hn' hf' he0 (aZ hj aD) hx TS MY
section
variable {α β:Type}
end
/-! ### Rules that consume -/
section
variable {α β:Type}
/-! ### Rules that agree on short lists of tokens -/
end
section
variable {α β:Type}
variable {k k1 k2:List Kt} {v a:α} {C C1 C2:Option Kt->Prop} {w:Str} {x:Kt}
end
/-! ### Fleets -/
section
variable {C:Option Kt->Prop}
end
/-! ### Fleets -/
theorem QO (e:Ex):∀ (H:Hp) (cs:List Value) (w:World),Rep H (dEx .u8 e) cs->e.depth<=1000000->Agr H w ->
 Calls prg 73 #[.agg cs.toArray] w λr w'=>r=.returned (iN e.depth)/\Ext w w':=by
 induction e using Ex.ind with | _ op nm nn args ih
 intro H cs w h he hA;rw [wK] at he;obtain ⟨p,c,rfl,hs,hnm⟩:=eV h;have hcap:=hs.cap;refine Sx.enter (H:=H) func73 rfl ntmps73 rfl hA ?_;refine .sr<|.bx Z Z Z λb1=>.a Z Z<|.ns<|.aq Z<|.sq<|.sr<|.fA Z eS<|.lD Z dR Hm Z<|.yw (.lenSl eG Z)<|.mv Z<|.nt<|.bk<|.lp (X:=Nat) [(1,_),(7,_)] ⟨Z,Z,Jt⟩ [_] (λk=>[(3,iN (Ex.deeps (args.take k))),(8,iN k)]) (λk=>H) (λk=>[]) (λk=>k<=args.length) (λk=>args.length - k) 0 (λ_ s=>s) ⟨Z,Z,Jt⟩ aD λk hC=>?_
 refine .sr<|.yw (.lss Z Z)<|.nt<|.sq<|.ce Z (λh9=>?_) (λh9=>?_)
 ·have hk:k<args.length:=aD
  obtain ⟨b5,o5,c5,hp5,r5,l5,m5⟩:=hs.elem (eR hk);cases hp5;have h1:=PD args k;have h2:=YU hk;have h3:=PE hk;exact .sk<|.tN<|.sq<|.bk<|.sm Z<|.aq Z<|.rg<|.mv Z<|.fA Z eS<|.lD Z dR Hm Z<|.mv Z<|.yw (.indexSl eG Z Z Z aD (q:=o5+k * 4) Z)<|.yw (.loadMW Z eM m5 l5)<|.yw (.xl Z (λW s=>ih _ (aX hk) H c5 W r5 aD s.agr))<|.yw (.max2 Z Z (c:=((Ex.deeps (args.take (k+1)):Nat):Int)) aD)<|.a Z Z<|.nl<|.bN<|.tN<|.rg<|.yw (.add Z Z w7)<|.mv Z<|.nt<|.ag (k+1) ⟨Z,Z,Jt⟩ ⟨Z,Z,Jt⟩ (λ_ s=>s) aD aD
 obtain rfl:k=args.length:=aD
 rw [bW];refine .ex<|.eb<|.sm Z<|.yw (.add Z Z w7)<|.az Z<|?_
 exact yE Z Z (by rw [wK];rfl)
theorem CU (e:Ex):∀ (H:Hp) (cs:List Value) (w:World),Rep H (dEx .i64 e) cs->e.depth<=1000000->Agr H w ->
 Calls prg 81 #[.agg cs.toArray] w λr w'=>r=.returned (iN e.depth)/\Ext w w':=by
 induction e using Ex.ind with | _ op nm nn args ih
 intro H cs w h he hA;rw [wK] at he;obtain ⟨p,c,rfl,hs,hnm⟩:=eV h;have hcap:=hs.cap;refine Sx.enter (H:=H) func81 rfl ntmps81 rfl hA ?_;refine .sr<|.bx Z Z Z λb1=>.a Z Z<|.ns<|.aq Z<|.sq<|.sr<|.fA Z hI<|.lD Z fM Hm Z<|.yw (.lenSl fK Z)<|.mv Z<|.nt<|.bk<|.lp (X:=Nat) [(7,_),(8,_)] ⟨Z,Z,Jt⟩ [_] (λk=>[(3,iN (Ex.deeps (args.take k))),(9,iN k)]) (λk=>H) (λk=>[]) (λk=>k<=args.length) (λk=>args.length - k) 0 (λ_ s=>s) ⟨Z,Z,Jt⟩ aD λk hC=>?_
 refine .sr<|.yw (.lss Z Z)<|.nt<|.sq<|.ce Z (λh10=>?_) (λh10=>?_)
 ·have hk:k<args.length:=aD
  obtain ⟨b5,o5,c5,hp5,r5,l5,m5⟩:=hs.elem (eR hk);cases hp5;have h1:=PD args k;have h2:=YU hk;have h3:=PE hk;exact .sk<|.tN<|.sq<|.bk<|.sr<|.yw (.indexSl fK Z Z Z aD (q:=o5+k * 4) Z)<|.yw (.loadMW Z cY m5 l5)<|.al gX Z λb5=>.sV .head Z Z eD l5 r5.one Z<|.nt<|.rg<|.mv Z<|.yw (.loadW Z cY Hm l5)<|.yw (.xl Z (λW s=>ih _ (aX hk) H c5 W r5 aD s.agr))<|.yw (.max2 Z Z (c:=((Ex.deeps (args.take (k+1)):Nat):Int)) aD)<|.a Z Z<|.nl<|.bN<|.tN<|.rg<|.yw (.add Z Z w7)<|.mv Z<|.nt<|.ag (k+1) ⟨Z,Z,Jt⟩ ⟨Z,Z,Jt⟩ (λ_ s=>s.pick [1] [_] Z Z) aD aD
 obtain rfl:k=args.length:=aD
 rw [bW];refine .ex<|.eb<|.sm Z<|.yw (.add Z Z w7)<|.az Z<|?_
 exact yE Z Z (by rw [wK];rfl)
theorem OJ (c:UInt8) (w:World):Calls prg 150 #[CH c] w λr w'=>r=.returned (.bool (pO c))/\Ext w w':=by
 refine y6 func150 Z ntmps150 Z ?_;refine .sr<|.a Z Z<|.ns<|.mv Z<|.yw (.geq Z Z)<|.mv Z<|.e2 (λh5=>?_) (λh5=>?_)
 ·refine .gy (.move Z)<|.gy (.leq Z Z)<|.pT Z<|.mv Z<|.e2 (λh9=>?_) (λh9=>?_)
  ·refine .g3<|.gV<|.gV<|.gG<|.pT Z<|.az Z<|?_
   exact yE Z Z (xE (by simp only [pO,aW,aE,aB,reduceCtorEq,cO,cI,cP,cH,eJ,bC,aM];try omega))
  refine .gy (.move Z)<|.gy (.geq Z Z)<|.gy (.move Z)<|.b2 (λh12=>?_) (λh12=>?_)
  ·try simp only [dt] at h12
   refine .gy (.move Z)<|.gy (.leq Z Z)<|.gy (.pickT Z Z)<|.pF Z<|.az Z<|?_
   exact yE Z Z (xE (by simp only [pO,aW,aE,aB,reduceCtorEq,cO,cI,cP,cH,eJ,bC,aM];try omega))
  try simp only [df] at h12
  refine .g2<|.gy (.pickF Z Z)<|.pF Z<|.az Z<|?_
  exact yE Z Z (xE (by simp only [pO,aW,aE,aB,reduceCtorEq,cO,cI,cP,cH,eJ,bC,aM];try omega))
 refine .g2<|.pF Z<|.mv Z<|.gy (.move Z)<|.gy (.geq Z Z)<|.gy (.move Z)<|.b2 (λh12=>?_) (λh12=>?_)
 ·try simp only [dt] at h12
  refine .gy (.move Z)<|.gy (.leq Z Z)<|.gy (.pickT Z Z)<|.pF Z<|.az Z<|?_
  exact yE Z Z (xE (by simp only [pO,aW,aE,aB,reduceCtorEq,cO,cI,cP,cH,eJ,bC,aM];try omega))
 try simp only [df] at h12
 refine .g2<|.gy (.pickF Z Z)<|.pF Z<|.az Z<|?_
 exact yE Z Z (xE (by simp only [pO,aW,aE,aB,reduceCtorEq,cO,cI,cP,cH,eJ,bC,aM];try omega))
theorem ER (c:UInt8) (w:World):Calls prg 153 #[CH c] w λr w'=>r=.returned (.bool (iZ c))/\Ext w w':=by
 refine y6 func153 Z ntmps153 Z ?_;refine .sr<|.a Z Z<|.ns<|.mv Z<|.yw (.geq Z Z)<|.mv Z<|.e2 (λh5=>?_) (λh5=>?_)
 ·refine .gy (.move Z)<|.gy (.leq Z Z)<|.pT Z<|.az Z<|?_
  exact yE Z Z (xE (by simp only [iZ,aW,aE,aB,reduceCtorEq,cO,cI,cP,cH,eJ,bC,aM];try omega))
 refine .g2<|.pF Z<|.az Z<|?_
 exact yE Z Z (xE (by simp only [iZ,aW,aE,aB,reduceCtorEq,cO,cI,cP,cH,eJ,bC,aM];try omega))
theorem KV (c:UInt8) (w:World):Calls prg 124 #[CH c] w λr w'=>r=.returned (.bool (pO c))/\Ext w w':=by
 refine y6 func124 Z ntmps124 Z ?_;refine .sr<|.a Z Z<|.ns<|.mv Z<|.yw (.geq Z Z)<|.mv Z<|.e2 (λh5=>?_) (λh5=>?_)
 ·refine .gy (.move Z)<|.gy (.leq Z Z)<|.pT Z<|.mv Z<|.e2 (λh9=>?_) (λh9=>?_)
  ·refine .g3<|.gV<|.gV<|.gG<|.pT Z<|.az Z<|?_
   exact yE Z Z (xE (by simp only [pO,aW,aE,aB,reduceCtorEq,cO,cI,cP,cH,eJ,bC,aM];try omega))
  refine .gy (.move Z)<|.gy (.geq Z Z)<|.gy (.move Z)<|.b2 (λh12=>?_) (λh12=>?_)
  ·try simp only [dt] at h12
   refine .gy (.move Z)<|.gy (.leq Z Z)<|.gy (.pickT Z Z)<|.pF Z<|.az Z<|?_
   exact yE Z Z (xE (by simp only [pO,aW,aE,aB,reduceCtorEq,cO,cI,cP,cH,eJ,bC,aM];try omega))
  try simp only [df] at h12
  refine .g2<|.gy (.pickF Z Z)<|.pF Z<|.az Z<|?_
  exact yE Z Z (xE (by simp only [pO,aW,aE,aB,reduceCtorEq,cO,cI,cP,cH,eJ,bC,aM];try omega))
 refine .g2<|.pF Z<|.mv Z<|.gy (.move Z)<|.gy (.geq Z Z)<|.gy (.move Z)<|.b2 (λh12=>?_) (λh12=>?_)
 ·try simp only [dt] at h12
  refine .gy (.move Z)<|.gy (.leq Z Z)<|.gy (.pickT Z Z)<|.pF Z<|.az Z<|?_
  exact yE Z Z (xE (by simp only [pO,aW,aE,aB,reduceCtorEq,cO,cI,cP,cH,eJ,bC,aM];try omega))
 try simp only [df] at h12
 refine .g2<|.gy (.pickF Z Z)<|.pF Z<|.az Z<|?_
 exact yE Z Z (xE (by simp only [pO,aW,aE,aB,reduceCtorEq,cO,cI,cP,cH,eJ,bC,aM];try omega))
theorem GH (c:UInt8) (w:World):Calls prg 125 #[CH c] w λr w'=>r=.returned (.bool (iZ c))/\Ext w w':=by
 refine y6 func125 Z ntmps125 Z ?_;refine .sr<|.a Z Z<|.ns<|.mv Z<|.yw (.geq Z Z)<|.mv Z<|.e2 (λh5=>?_) (λh5=>?_)
 ·refine .gy (.move Z)<|.gy (.leq Z Z)<|.pT Z<|.az Z<|?_
  exact yE Z Z (xE (by simp only [iZ,aW,aE,aB,reduceCtorEq,cO,cI,cP,cH,eJ,bC,aM];try omega))
 refine .g2<|.pF Z<|.az Z<|?_
 exact yE Z Z (xE (by simp only [iZ,aW,aE,aB,reduceCtorEq,cO,cI,cP,cH,eJ,bC,aM];try omega))
theorem aD6 (c:UInt8) (w:World):Calls prg 151 #[CH c] w λr w'=>r=.returned (.bool (kT c))/\Ext w w':=by
 refine y6 func151 Z ntmps151 Z ?_;refine .sr<|.a Z Z<|.ns<|.mv Z<|.yw (.xl Z (λW s=>OJ c W))<|.mv Z<|.b2 (λh5=>?_) (λh5=>?_)
 ·refine .g2<|.pT Z<|.mv Z<|.g2<|.pT Z<|.az Z<|?_
  exact yE Z Z (xE (by simp_all [kT];try omega))
 refine .gy (.move Z)<|.gy (.xl Z (λW s=>ER c W))<|.pF Z<|.mv Z<|.b2 (λh9=>?_) (λh9=>?_)
 ·refine .g2<|.pT Z<|.az Z<|?_
  exact yE Z Z (xE (by simp_all [kT];try omega))
 refine .gy (.move Z)<|.gy (.eql Z Z)<|.pF Z<|.az Z<|?_
 exact yE Z Z (xE (by simp_all [kT];try omega))
theorem yC (gf:FuncId) (q:UInt8->Bool) (hf:kM prg gf=true) (hg:∀ b w,Calls prg gf #[CH b] w λr w'=>r=.returned (.bool (q b))/\Ext w w') (l:Str) (hl:l.length<=9223372036854775807) (w:World) :
 Calls prg 146 #[bJ l,.func (.func gf) #[] #[]] w λr w'=>r=.returned (iN (pre q l))/\Ext w w':=by
 refine y6 func146 Z ntmps146 Z ?_;refine .sr<|.a Z Z<|.ns<|.aq Z<|.sq<|.bk<|.lp (X:=Nat) [(0,_),(1,_)] ⟨Z,Z,Jt⟩ [] (λk=>[(5,iN k)]) (λk=>(⟨λ_=>none,0⟩:Hp)) (λk=>[]) (λk=>k<=pre q l) (λk=>l.length - k) 0 (λ_ s=>s) ⟨Z,Jt⟩ aD λk hC=>?_
 have hp:=uM q l;refine .sq<|.sm Z<|.mv Z<|.yw (.lenS dX Z)<|.yw (.lss Z Z)<|.mv Z<|.e2 (λh10=>?_) (λh10=>?_)
 ·have hk:k<l.length:=aD
  refine .gy (.move Z)<|.gy (.move Z)<|.gy (.move Z)<|.gy (.idxS dX Z Z Z (List.getElem?_eq_getElem hk))<|.gy (.callV (fi:=[]) (ca:=[]) Z hf Z (λW s=>hg _ W))<|.pT Z<|.nt<|.cd Z (λh16=>?_) (λh16=>?_)
  ·exact .sk<|.tN<|.bk<|.rg<|.mv Z<|.yw (.add Z Z w7)<|.a Z Z<|.nl<|.bN<|.tN<|.ag (k+1) ⟨Z,Jt⟩ ⟨Z,Z,Jt⟩ (λ_ s=>s) (rR hk hC (by simpa using h16)) aD
  refine .ex<|.eb<|.sm Z<|.az Z<|?_
  first
   | exact yE Z Z (by rw [show k=pre q l by omega])
   | exact yE Z Z (by rw [yD hk hC (by simpa using h16)])
 refine .g4<|.gG<|.pF Z<|.nt<|.cF Z<|.ex<|.eb<|.sm Z<|.az Z<|?_
 first
  | exact yE Z Z (by rw [show k=pre q l by omega])
  | exact yE Z Z (by rw [yD hk hC (by simpa using h16)])
theorem XX (H:Hp) (G:Gl H) (l:Str) (w:World) (hA:Agr H w) :
 Calls prg 152 #[bJ l] w λr w'=>r=.returned (.bool (words.contains l))/\Ext w w':=by
 refine Sx.enter (H:=H) func152 rfl ntmps152 rfl hA ?_;refine .sr<|.aq Z<|.sq<|.sr<|.yw (.loadMW Z aX1 G.words Z)<|.mv Z<|.nt<|.bk<|.lp (X:=Nat) [(0,_),(5,_)] ⟨Z,Z,Jt⟩ [] (λk=>[(6,iN k)]) (λk=>H) (λk=>[]) (λk=>k<=39/\∀ j,j<k->words.getD j []≠l) (λk=>39 - k) 0 (λ_ s=>s) ⟨Z,Jt⟩ ⟨aD,λj hj=>by omega⟩ λk hC=>?_
 obtain ⟨hk,hne⟩:=hC;refine .sr<|.yw (.lss Z Z)<|.nt<|.sq<|.ce Z (λh7=>?_) (λh7=>?_)
 ·refine .sk<|.tN<|.sq<|.bk<|.sr<|.yw (.idxA aW4 aW8 Z Z Z aD (tI (by show k<39;omega) []))<|.a Z Z<|.ns<|.mv Z<|.mv Z<|.yw (.eqS Z Z)<|.nt<|.ce Z (λh11=>?_) (λh11=>?_)
  ·have hmem:l∈words:=by
    rw [<-h11,nY (show k<words.length by show k<39;omega)];exact aX _
   refine .sr<|.az Z<|.bR<|.tR<|.tR<|.bR<|.tR<|?_
   exact yE Z Z (xE (by simp [gI, *]))
  exact .sk<|.bN<|.tN<|.rg<|.yw (.add Z Z w7)<|.mv Z<|.nt<|.ag (k+1) ⟨Z,Jt⟩ ⟨Z,Z,Jt⟩ (λ_ s=>s) ⟨aD,λj hj=>by
   by_cases e:j=k
   ·subst e;exact h11
   ·exact hne j aD⟩ aD
 have hno:l ∉ words:=λhm=>by
  obtain ⟨j,hj,e⟩:=pQ.1 hm;have hj2:j<39:=hj;exact hne j aD (by rw [nY hj];exact e)
 refine .ex<|.eb<|.sr<|.az Z<|?_
 exact yE Z Z (xE (by simp [gI, *]))
theorem OO (l m:Str) (w:World):Calls prg 179 #[bJ l,bJ m] w λr w'=>r=.returned (.bool (yZ l m))/\Ext w w':=by
 refine y6 func179 Z ntmps179 Z ?_;refine .sr<|.a Z Z<|.ns<|.mv Z<|.yw (.lenS dX Z)<|.mv Z<|.yw (.lenS dX Z)<|.yw (.geq Z Z)<|.mv Z<|.e2 (λh10=>?_) (λh10=>?_)
 ·refine .gy (.move Z)<|.gy (.move Z)<|.gy (.lenS dX Z)<|.gy (.takeS dX Z Z Z aD)<|.gy (.move Z)<|.gy (.eqS Z Z)<|.pT Z<|.az Z<|?_
  exact yE Z Z (xE (by first | (simp only [yZ,aW,aE,aB,reduceCtorEq,cO,cI,cP,cH,eJ,bC,aM];omega) | exact ⟨λe=>by simp only [yZ,aW,aE,aB,reduceCtorEq,cO,cI,cP,cH,eJ,bC,aM] at e|-;exact ⟨aD,e⟩,λe=>by simp only [yZ,aW,aE,aB,reduceCtorEq,cO,cI,cP,cH,eJ,bC,aM] at e|-;exact e.2⟩))
 refine .g4<|.g2<|.pF Z<|.az Z<|?_
 exact yE Z Z (xE (by first | (simp only [yZ,aW,aE,aB,reduceCtorEq,cO,cI,cP,cH,eJ,bC,aM];omega) | exact ⟨λe=>by simp only [yZ,aW,aE,aB,reduceCtorEq,cO,cI,cP,cH,eJ,bC,aM] at e|-;exact ⟨aD,e⟩,λe=>by simp only [yZ,aW,aE,aB,reduceCtorEq,cO,cI,cP,cH,eJ,bC,aM] at e|-;exact e.2⟩))
theorem FL (l m:Str) (w:World):Calls prg 148 #[bJ l,bJ m] w λr w'=>r=.returned (.bool (yZ l m))/\Ext w w':=by
 refine y6 func148 Z ntmps148 Z ?_;refine .sr<|.a Z Z<|.ns<|.mv Z<|.mv Z<|.yw (.xl Z (λW s=>OO l m W))<|.az Z<|?_
 exact yE Z Z Z
variable {k:Nat}
theorem WY {l:Str} (hk:k<25) (h0:∀ j,j<k->yZ l (symbols.getD j [])=false) (h1:yZ l (symbols.getD k [])=true):symbols.find? (λx=>x.isPrefixOf l)=some (symbols.getD k []):=by
 have hk':k<symbols.length:=hk;rw [nY hk'] at h1|-;rw [DC] at h1;refine List.find?_eq_some_iff_getElem.2 ⟨h1,k,hk',Z,λj hj=>?_⟩;have:=h0 j hj;rw [nY aD,DC] at this;simp [this]
theorem WX {l:Str} (h0:∀ j,j<25->yZ l (symbols.getD j [])=false):symbols.find? (λx=>x.isPrefixOf l)=none:=by
 rw [List.find?_eq_none];intro x hx;obtain ⟨j,hj,rfl⟩:=pQ.1 hx;have:=h0 j hj;rw [nY hj,DC] at this;simp [this]
theorem XH (H:Hp) (G:Gl H) (l:Str) (hl:l.length<=9223372036854775807) (h0:l≠[]) (w:World) (hA:Agr H w) :
 Calls prg 97 #[bJ l] w λe w'=>e=.returned (.tuple #[.int .u8 ((dD l).1.toNat:Nat),iN ((dD l).2)])/\Ext w w':=by
 match l,h0 with
 | c::r,_ =>
 refine Sx.enter (H:=H) func97 rfl ntmps97 rfl hA ?_;refine .sr<|.a Z Z<|.aq Z<|.sq<|.sm Z<|.yw (.idxS dX Z Z Z (b:=c) (j:=0) Z)<|.aq Z<|.bk<|.sm Z<|.yw (.xl Z (λW s=>OJ c W))<|.aq Z<|.cd Z (λh21=>?_) (λh21=>?_)
 ·refine .sm Z<|.yw (.xl Z (λW s=>yC 151 kT aH5 aD6 (c::r) hl W))<|.aq Z<|.sq<|.sm Z<|.mv Z<|.yw (.takeS dX Z Z Z (uM _ _))<|.yw (.xl Z (λW s=>XX H G _ W s.agr))<|.nt<|.cd Z (λh29=>?_) (λh29=>?_)
  ·refine .sm Z<|.a Z Z<|.az Z<|.tR<|.bR<|.tR<|?_
   exact y7 Z (.cons (.tmp Z) (.cons (.tmp Z) .nil)) rfl λW s=>⟨by simp only [dD,bU,h21,h29,dC];rfl,s.ext⟩
  refine .sk<|.tN<|.sm Z<|.yw (.leq Z Z)<|.nt<|.ce Z (λh32=>?_) (λh32=>?_)
  ·refine .sm Z<|.a Z Z<|.az Z<|.bR<|.tR<|?_
   exact y7 Z (.cons (.tmp Z) (.cons (.tmp Z) .nil)) rfl λW s=>⟨by simp only [dD,bU,h21,h29,dC,aM,cZ,show pre kT (c::r)<=12 by omega];rfl,s.ext⟩
  refine .sk<|.bN<|.tN<|.sm Z<|.yw (.lenS dX Z)<|.a Z Z<|.az Z<|?_
  exact y7 Z (.cons (.tmp Z) (.cons (.tmp Z) .nil)) rfl λW s=>⟨by simp only [dD,bU,h21,h29,dC,aM,cZ,show ¬ pre kT (c::r)<=12 by omega];rfl,s.ext⟩
 refine .sm Z<|.yw (.xl Z (λW s=>ER c W))<|.aq Z<|.cd Z (λh34=>?_) (λh34=>?_)
 ·refine .sm Z<|.yw (.xl Z (λW s=>yC 153 iZ PS ER (c::r) hl W))<|.a Z Z<|.ns<|.mv Z<|.yw (.eql Z Z)<|.mv Z<|.e2 (λh41=>?_) (λh41=>?_)
  ·have hor:(pre iZ (c::r)=1\/c≠48)=True:=eq_true (.inl aD);refine .g2<|.pT Z<|.nt<|.cT Z<|.sm Z<|.a Z Z<|.az Z<|.bR<|.tR<|?_
   exact y7 Z (.cons (.tmp Z) (.cons (.tmp Z) .nil)) rfl λW s=>⟨by simp only [dD,bU,h21,h34,dC,aM,cZ,hor];rfl,s.ext⟩
  refine .gy (.move Z)<|.gy (.neq Z Z)<|.pF Z<|.nt<|.ce Z (λh44=>?_) (λh44=>?_)
  ·have hor:(pre iZ (c::r)=1\/c≠48)=True:=eq_true (.inr λe=>h44 (by rw [e];rfl));refine .sm Z<|.a Z Z<|.az Z<|.bR<|.tR<|?_
   exact y7 Z (.cons (.tmp Z) (.cons (.tmp Z) .nil)) rfl λW s=>⟨by simp only [dD,bU,h21,h34,dC,aM,cZ,hor];rfl,s.ext⟩
  have hor:(pre iZ (c::r)=1\/c≠48)=False:=eq_false λh=>by
   rcases h with h | h
   ·omega
   ·exact h (aR.1 (by show c.toNat=48;simp at h44;omega))
  refine .sk<|.bN<|.tN<|.sm Z<|.yw (.lenS dX Z)<|.a Z Z<|.az Z<|?_
  exact y7 Z (.cons (.tmp Z) (.cons (.tmp Z) .nil)) rfl λW s=>⟨by simp only [dD,bU,h21,h34,dC,aM,cZ,hor];rfl,s.ext⟩
 refine .sr<|.yw (.loadMW Z aX2 G.symbols Z)<|.mv Z<|.nt<|.bk<|.lp (X:=Nat) [(0,_),(11,_)] ⟨Z,Z,Jt⟩ [] (λk=>[(12,iN k)]) (λk=>H) (λk=>[]) (λk=>k<=25/\∀ j,j<k->yZ (c::r) (symbols.getD j [])=false) (λk=>25 - k) 0 (λ_ s=>s) ⟨Z,Jt⟩ ⟨aD,λj hj=>by omega⟩ λk hC=>?_
 obtain ⟨hk,hne⟩:=hC;refine .sr<|.yw (.lss Z Z)<|.nt<|.sq<|.ce Z (λh13=>?_) (λh13=>?_)
 ·refine .sk<|.tN<|.sq<|.bk<|.sr<|.yw (.idxA aW5 aW9 Z Z Z aD (tI (by show k<25;omega) []))<|.a Z Z<|.ns<|.mv Z<|.mv Z<|.yw (.xl Z (λW s=>FL (c::r) _ W))<|.nt<|.cd Z (λh17=>?_) (λh17=>?_)
  ·have hfind:=WY aD hne h17;refine .sm Z<|.yw (.lenS dX Z)<|.a Z Z<|.az Z<|.bR<|.tR<|.tR<|.bR<|.bR<|.tR<|?_
   exact y7 Z (.cons (.tmp Z) (.cons (.tmp Z) .nil)) rfl λW s=>⟨by simp only [dD,bU,h21,h34,aM,cZ,hfind];rfl,s.ext⟩
  exact .sk<|.bN<|.tN<|.rg<|.yw (.add Z Z w7)<|.mv Z<|.nt<|.ag (k+1) ⟨Z,Jt⟩ ⟨Z,Z,Jt⟩ (λ_ s=>s) ⟨aD,λj hj=>by
   by_cases e:j=k
   ·subst e;exact h17
   ·exact hne j aD⟩ aD
 have hfind:=WX (l:=c::r) (λj hj=>hne j aD);refine .ex<|.tE<|.tE<|.bE<|.bN<|.tN<|.sm Z<|.yw (.lenS dX Z)<|.a Z Z<|.az Z<|?_
 exact y7 Z (.cons (.tmp Z) (.cons (.tmp Z) .nil)) rfl λW s=>⟨by simp only [dD,bU,h21,h34,aM,cZ,hfind];rfl,s.ext⟩
theorem vM (H:Hp) (G:Gl H) (l:Str) (hl:l.length<=9223372036854775807) (w:World) (hA:Agr H w) :
 Calls prg 75 #[bJ l] w λr w'=>r=.returned (.bool (gL l))/\Ext w w':=by
 refine Sx.enter (H:=H) func75 rfl ntmps75 rfl hA ?_;refine .sr<|.aq Z<|.sq<|.sm Z<|.yw (.eqS Z Z)<|.nt<|.ce Z (λh6=>?_) (λh6=>?_)
 ·subst h6;refine .sr<|.az Z<|.tR<|?_
  refine yE Z Z (xE ?_)
  (rfl)
 refine .sk<|.tN<|.sm Z<|.yw (.xl Z (λW s=>XH H G l hl h6 W s.agr))<|.mv Z<|.yw (.extract Z Z)<|.yw (.extract Z Z)<|.a Z Z<|.a Z Z<|.ns<|.mv Z<|.yw (.eql Z Z)<|.mv Z<|.e2 (λh14=>?_) (λh14=>?_)
 ·have h1:(dD l).1=1:=aR.1 (by show _=1;omega);refine .gy (.move Z)<|.gy (.move Z)<|.gy (.lenS dX Z)<|.gy (.eql Z Z)<|.pT Z<|.az Z<|?_
  refine yE Z Z (xE ?_)
  (rw [gL,show (dD l).1=1 from h1];simp [h6];omega)
 have h1:¬ (dD l).1=1:=λe=>h14 (by rw [e];rfl);refine .g4<|.pF Z<|.az Z<|?_
 refine yE Z Z (xE ?_)
 (rw [show gL l=false by simp [gL,h1]])
variable {i:Nat}
theorem bR6 {es:List Str} (h:i<es.length):(es.map bJ)[i]? = some (bJ (es.getD i [])):=by simp [h]
theorem yI {q:Ex->Bool} {l:List Ex} (h:k<l.length) (ha:Ex.alls q l=true):Ex.all q l[k]=true:=by
 cases hb:Ex.all q l[k] with
 | true=>rfl
 | false=>rw [bN9 h hb] at ha;cases ha
theorem aU0 (H:Hp) (k:Nat) (w:World) (hA:Agr H w):Calls prg 170 #[iN k] w λr w'=>r=.returned (.int .i64 (arR k))/\Ext w w':=by
 refine Sx.enter (H:=H) func170 rfl ntmps170 rfl hA ?_;refine .sr<|.aq Z<|.sq<|.bk<|.sm Z<|.yw (.lss Z Z)<|.mv Z<|.e2 (λh6=>?_) (λh6=>?_)
 ·refine .g2<|.pT Z<|.aq Z<|.cT Z<|.sr<|.az Z<|.bR<|.tR<|?_
  refine yE Z Z ?_
  first
   | (rw [arR];simp_all <;> omega)
   | (rw [arR];simp_all;omega)
   | (congr 1;congr 1;rw [arR];simp_all <;> omega)
 refine .gy (.move Z)<|.gy (.gtr Z Z)<|.pF Z<|.aq Z<|.cd Z (λh3=>?_) (λh3=>?_)
 ·refine .sr<|.az Z<|.bR<|.tR<|?_
  refine yE Z Z ?_
  first
   | (rw [arR];simp_all <;> omega)
   | (rw [arR];simp_all;omega)
   | (congr 1;congr 1;rw [arR];simp_all <;> omega)
 refine .sm Z<|.yw (.leq Z Z)<|.mv Z<|.e2 (λh13=>?_) (λh13=>?_)
 ·refine .g2<|.pT Z<|.aq Z<|.cT Z<|.sr<|.az Z<|.bR<|.tR<|?_
  refine yE Z Z ?_
  first
   | (rw [arR];simp_all <;> omega)
   | (rw [arR];simp_all;omega)
   | (congr 1;congr 1;rw [arR];simp_all <;> omega)
 refine .gy (.move Z)<|.gy (.eql Z Z)<|.pF Z<|.aq Z<|.cd Z (λh10=>?_) (λh10=>?_)
 ·refine .sr<|.az Z<|.bR<|.tR<|?_
  refine yE Z Z ?_
  first
   | (rw [arR];simp_all <;> omega)
   | (rw [arR];simp_all;omega)
   | (congr 1;congr 1;rw [arR];simp_all <;> omega)
 refine .sm Z<|.yw (.eql Z Z)<|.mv Z<|.e2 (λh20=>?_) (λh20=>?_)
 ·refine .g2<|.pT Z<|.mv Z<|.g2<|.pT Z<|.mv Z<|.g2<|.pT Z<|.aq Z<|.cT Z<|.sr<|.az Z<|.bR<|.tR<|?_
  refine yE Z Z ?_
  first
   | (rw [arR];simp_all <;> omega)
   | (rw [arR];simp_all;omega)
   | (congr 1;congr 1;rw [arR];simp_all <;> omega)
 refine .gy (.move Z)<|.gy (.eql Z Z)<|.pF Z<|.mv Z<|.e2 (λh24=>?_) (λh24=>?_)
 ·refine .g2<|.pT Z<|.mv Z<|.g2<|.pT Z<|.aq Z<|.cT Z<|.sr<|.az Z<|.bR<|.tR<|?_
  refine yE Z Z ?_
  first
   | (rw [arR];simp_all <;> omega)
   | (rw [arR];simp_all;omega)
   | (congr 1;congr 1;rw [arR];simp_all <;> omega)
 refine .gy (.move Z)<|.gy (.eql Z Z)<|.pF Z<|.mv Z<|.e2 (λh28=>?_) (λh28=>?_)
 ·refine .g2<|.pT Z<|.aq Z<|.cT Z<|.sr<|.az Z<|.bR<|.tR<|?_
  refine yE Z Z ?_
  first
   | (rw [arR];simp_all <;> omega)
   | (rw [arR];simp_all;omega)
   | (congr 1;congr 1;rw [arR];simp_all <;> omega)
 refine .gy (.move Z)<|.gy (.eql Z Z)<|.pF Z<|.aq Z<|.cd Z (λh17=>?_) (λh17=>?_)
 ·refine .sr<|.az Z<|.bR<|.tR<|?_
  refine yE Z Z ?_
  first
   | (rw [arR];simp_all <;> omega)
   | (rw [arR];simp_all;omega)
   | (congr 1;congr 1;rw [arR];simp_all <;> omega)
 refine .sk<|.bN<|.tN<|.sr<|.az Z<|?_
 refine yE Z Z ?_
 first
  | (rw [arR];simp_all <;> omega)
  | (rw [arR];simp_all;omega)
  | (congr 1;congr 1;rw [arR];simp_all <;> omega)
def cM1 (e:Ex):Prop:=Ex.all OD e=true->∀ (H:Hp) (cs:List Value) (w:World),Rep H (dEx .i64 e) cs->Agr H w ->
 Calls prg 39 #[.agg cs.toArray] w λr w'=>∃ x H',Rep H' (dEx .u8 e) x/\r=.returned (.agg x.toArray)/\wV H w H' w'
theorem bK4 (e:Ex):cM1 e:=by
 induction e using Ex.ind with | _ op nm nn args ih
 intro hnr H cs w h hA;rw [uR,aE,SB,aB] at hnr;obtain ⟨p,c,rfl,hs,hnm⟩:=eV h;have hcap:=hs.cap;have hn3:=hnr.1;refine Sx.enter (H:=H) func39 rfl ntmps39 rfl hA ?_;refine .sr<|.bx Z Z Z λb1=>.al kQ Z λb2=>?_
 refine Sx.row0 76 4 ?_;refine .ns<|.fA Z eH<|.lD Z bQ iG Z<|.yw (.conv Z kG ZI (c:=(op.toNat:Nat)) (by have:=op.toNat_lt;simp only [IntKind.wrap,IntKind.signed,IntKind.bits];simp;omega))<|.fA Z jW<|.lD Z bT iG Z<|.fA Z mU<|.lD Z jN iG Z<|.yw (.build Z (PY _ _ _))<|.al kQ Z λb3=>.sX .head Z Z gR Z<|.nt<|.sq<|.sr<|.fA Z hI<|.lD Z fM qL Z<|.yw (.lenSl fK Z)<|.mv Z<|.nt<|.bk<|.lp (X:=Nat × Hp × Value × List Value) [(2,_),(3,_),(15,_),(16,_)] ⟨Z,Z,Z,Z,Jt⟩ [_,_] (λz=>[(17,iN z.1)]) (λz=>z.2.1) (λz=>[.box b3 [.int .u8 op.toNat,bJ nm,.int .i64 nn.toInt,z.2.2.1] 76,.row 76 4 z.2.2.1 z.1 z.2.2.2]) (λz=>z.1<=args.length/\HUp w H z.2.1/\dT z.2.1 4 ((args.take z.1).map (dEx .u8)) z.2.2.2) (λz=>args.length - z.1) (0,H,cL,[]) (λ_ s=>s) ⟨Z,Jt⟩ ⟨by simp,.refl,dT.nil⟩ λz hC=>?_
 obtain ⟨k,H1,r,xs⟩:=z;dsimp only at hC|-;obtain ⟨hk0,u1,hz⟩:=hC;refine .sr<|.yw (.lss Z Z)<|.nt<|.sq<|.ce Z (λh18=>?_) (λh18=>?_)
 ·have hk:k<args.length:=aD
  obtain ⟨bE,oE,cE,hpE,rE,lE,mE⟩:=(hs.up u1.up).elem (eR hk);cases hpE;have hnr1:=yI hk hnr.2;refine .sk<|.tN<|.sq<|.bk<|.sr<|.yw (.indexSl fK Z Z Z aD (q:=oE+k * 4) Z)<|.yw (.loadMW Z cY mE lE)<|.al gX Z λb5=>.sV .head Z Z eD lE rE.one Z<|.nt<|.fL 5 [(0,0),(1,0),(2,0),(3,1),(4,1)]<|.fA Z eS<|.lD Z dR cU Z<|.yw (.loadW Z cY Hm lE)<|.xt (X:=List Value) Z (λW s=>ih _ (aX hk) hnr1 H1 cE W rE s.agr) λx2 H2 hc2 u2=>?_
  generalize hx:args[k]=x at hc2;obtain ⟨op2,nm2,n2,PL⟩:=x;obtain ⟨p2,c2,rfl,hs2,hnm2⟩:=eV hc2;refine .bl Z (oZ _ _ _ _) Z λb25=>.fn (tl:=[_,_,_]) Z<|.ap (news:=[.int .u8 op2.toNat,bJ nm2,.int .i64 n2.toInt,.slice p2 PL.length c2]) wM Z (λ_=>lJ) Z (.box Hm z0) Z (by simp [Value.oneCell',bJ]) (by simp [maxLen];omega) aD Z λr26 _=>?_
  refine At.ra (.tail _ (.tail _ (.tail _ Hm))) λp26 c26 e26=>?_;exact .fA Z eS<|.st iE Z Z nT (by rw [e26];rfl) (nb Z) Z<|.nl<|.bN<|.tN<|.rg<|.yw (.add Z Z w7)<|.mv Z<|.nt<|.ag (x:=(k,H1,r,xs)) (k+1,H2,r26,xs++[.int .u8 op2.toNat,bJ nm2,.int .i64 n2.toInt,.slice p2 PL.length c2]) ⟨Z,Jt⟩ ⟨Z,Z,Z,Z,Jt⟩ (λ_ s=>(s.pick [2,3,4,5] _ Z Z)) ⟨by dsimp only;omega,u1.trans u2,by dsimp only;rw [tX hk,hx,bI];exact (hz.up u2.up).snoc hc2 Z⟩ (by dsimp only;omega)
 obtain rfl:k=args.length:=aD
 rw [bW] at hz;refine At.ra (.tail _ Hm) λp26 c26 e26=>?_;subst e26;refine .ex<|.eb<|.sr<|.yw (.loadW Z eM Hm Z)<|.sX iE Z Z gR Z<|.nt<|.rt<|?_
 refine At.pm [1,2] [_,_] rfl rfl ?_;refine iI (ds:=args.map (dEx .u8)) fG hz λH3 p3 c3 u3 hr3 hs3=>?_;refine y8 Z (.cell Z eM Hm rfl) λW s=>⟨_,H3,kK hnm hs3,Z,(u1.trans u3).grow s⟩
end Go.Proofs.YtidclioghdbphaaGreatDoor
/- Plain: how large the fleet of a plan is. -/
namespace Go.Proofs.YtidclioghdbphaaGreatDoor
end Go.Proofs.YtidclioghdbphaaGreatDoor
namespace Go.Proofs.YtidclioghdbphaaGreatDoor
open Go.RowKit Go.Par Go.Sx
section
variable {α β:Type}
end
theorem cB7:∀ w∈words,pO (w.headD 0)=true/\w.length<=12:=by decide +kernel
theorem cN1:∀ w∈symbols,pO (w.headD 0)=false/\iZ (w.headD 0)=false:=by decide +kernel
variable {r w:Str}
theorem XI {c:UInt8} (e:(c::r).take (dD (c::r)).2=w):w.headD 0=c:=by
 have h:=(tZ (l:=c::r) fG).1;obtain ⟨k,hk⟩:∃ k,(dD (c::r)).2=k+1:=⟨(dD (c::r)).2 - 1,aD⟩;rw [hk] at e;subst e
 rfl
theorem bZ5 {c:UInt8} (h:iZ c=true):pO c=false:=by
 have key:∀ i∈List.range 256,iZ (UInt8.ofNat i)=true->pO (UInt8.ofNat i)=false:=by decide +kernel
 have:=key c.toNat (bZ.2 c.toNat_lt);rw [fU] at this;exact this h
theorem aC1 {m:Str} (h:m≠[]) (hw:w∈words\/w∈symbols) (e:m.take (dD m).2=w):(dD m).1=2\/(dD m).1=4:=by
 match m,h with
 | c::r,_ =>
  have hh:=XI e;cases h1:pO c with
  | true =>
   have hw1:w∈words:=by
    rcases hw with hw | hw
    ·exact hw
    ·have:=(cN1 w hw).1;rw [hh,h1] at this;cases this
   cases h4:words.contains ((c::r).take (pre kT (c::r))) with
   | true=>left;simp only [dD,bU,h1,h4,dC]
   | false =>
    by_cases h5:pre kT (c::r)<=12
    ·simp only [dD,bU,h1,h4,h5,dC,aM,cZ] at e;rw [e] at h4;rw [gI.2 hw1] at h4;cases h4
    ·simp only [dD,bU,h1,h4,h5,dC,aM,cZ] at e;rw [bW] at e;have h6:=uM kT (c::r);have h7:=(cB7 w hw1).2;rw [<-e] at h7;omega
  | false =>
   have hw1:w∈symbols:=by
    rcases hw with hw | hw
    ·have:=(cB7 w hw).1;rw [hh,h1] at this;cases this
    ·exact hw
   have h4:iZ c=false:=by
    have:=(cN1 w hw1).2;rw [hh] at this;exact this
   cases hx:symbols.find? (λx=>x.isPrefixOf (c::r)) with
   | some x=>right;simp only [dD,bU,h1,h4,hx,aM,cZ]
   | none =>
    simp only [dD,bU,h1,h4,hx,aM,cZ] at e;rw [bW] at e;have:=List.find?_eq_none.1 hx w hw1;rw [<-e] at this;exact absurd (iH.2 (List.prefix_refl _)) this
theorem RW {m:Str} {c0:UInt8} (h:m≠[]) (hc:c0=50\/c0=51) (e:m.take (dD m).2=[c0]):(dD m).1=3:=by
 match m,h with
 | c::r,_ =>
  have hh:c0=c:=XI e;have h4:iZ c=true:=by rw [<-hh];rcases hc with rfl | rfl <;> decide
  have h1:=bZ5 h4;have h5:pre iZ (c::r)=1\/c≠48:=.inr (by rw [<-hh];rcases hc with rfl | rfl <;> decide);simp only [dD,bU,h1,h4,h5,dC,aM,cZ]
def Tkg (t:Tk):Prop:=(t.t∈words\/t.t∈symbols->t.k=2\/t.k=4)/\(t.t=[50]\/t.t=[51]->t.k=3)/\t.t≠[]
theorem cB8:∀ (f o:Nat) (m:Str),∀ t∈CL f o m,Tkg t
 | 0,_,_,t,h=>by cases h
 | f+1,o,m,t,h=>by
  by_cases h0:m=[]
  ·rw [h0,qJ] at h;cases h
  ·rw [nQ h0] at h;rcases bM.1 h with rfl | h
   ·refine ⟨λhw=>aC1 h0 hw rfl,λhc=>?_,λe=>?_⟩
    ·rcases hc with hc | hc
     ·exact RW h0 (.inl Z) hc
     ·exact RW h0 (.inr Z) hc
    ·have hb:=tZ h0;have h2:=congrArg List.length e;rw [dG] at h2;simp only [aH] at h2;omega
   ·exact cB8 f _ _ t h
theorem SF (s:Str):∀ t∈pL s,Tkg t:=cB8 _ _ _
theorem bE5 (l:Str) (c:UInt8):sK (l++[c])=10 * sK l+(c.toNat - 48):=by
 unfold sK;rw [oP]
 rfl
theorem bE4:∀ (r:Str) (v:Nat),v<=r.foldl (λv c=>10 * v+(c.toNat - 48)) v
 | [],v=>aY _
 | c::r,v=>by
  rw [tW];have:=bE4 r (10 * v+(c.toNat - 48));omega
theorem bV3 (l r:Str):sK l<=sK (l++r):=by
 unfold sK;rw [oP];exact bE4 r _
theorem aQ7 (t:Str) (i:Nat):sK (t.take i)<=sK t:=by
 have h:=bV3 (t.take i) (t.drop i);rw [eW] at h;exact h
variable {i:Nat}
theorem aQ8 {t:Str} {c:UInt8} (h:t[i]? = some c):sK (t.take (i+1))=10 * sK (t.take i)+(c.toNat - 48):=by
 rw [List.take_succ,h];exact bE5 _ _
theorem aQ6:sK []=0:=rfl
def toks (o:Nat) (m:Str):List Tk:=CL (m.length+1) o m
def wZ (m:Str):Nat:=m.length - (eU false m).length
theorem XD (m:Str):wZ m<=m.length:=Nat.sub_le _ _
theorem PC (m:Str):m.drop (wZ m)=eU false m:=BF false m
theorem aY9 (o:Nat):toks o []=[]:=qJ _ _
theorem RE {o:Nat} {m:Str} (h:m≠[]):toks o m=⟨(dD m).1,m.take (dD m).2,o⟩::toks (o+(dD m).2+wZ (m.drop (dD m).2)) (m.drop ((dD m).2+wZ (m.drop (dD m).2))):=by
 have hr:=tZ h;have hs:=pJ false (m.drop (dD m).2);rw [dA] at hs;unfold toks;rw [nQ h,<-fO,PC]
 have e:o+(dD m).2+wZ (m.drop (dD m).2)=o+(m.length - (eU false (m.drop (dD m).2)).length):=by
  unfold wZ;rw [dA];omega
 rw [e,EG _ _ _ _ _ (dF _)];omega
theorem aR4 (s:Str):pL s=toks (wZ s) (s.drop (wZ s)):=by
 unfold toks pL;rw [PC];have hs:=pJ false s;exact EG _ _ _ _ aD aD
theorem WR:∀ (f o:Nat) (m:Str),(CL f o m).length<=m.length
 | 0,_,_=>by rw [CL];simp
 | f+1,o,m=>by
  by_cases h0:m=[]
  ·subst h0;rw [qJ];simp
  ·have hr:=tZ h0;have hs:=pJ false (m.drop (dD m).2);rw [dA] at hs;rw [nQ h0,aF];have:=WR f (o+(m.length - (eU false (m.drop (dD m).2)).length)) (eU false (m.drop (dD m).2));omega
theorem XU (s:Str):(pL s).length<=s.length:=aZ (WR _ _ _) (pJ false s)
end Go.Proofs.YtidclioghdbphaaGreatDoor
/- Plain: the rules of expressions on a parser's state. -/
namespace Go.Proofs.YtidclioghdbphaaGreatDoor
section
variable {α β:Type}
end
section
variable {α:Type}
end
section
variable {α β:Type}
end
section
variable {α β:Type}
end
end Go.Proofs.YtidclioghdbphaaGreatDoor
/- Plain: expressions in additional parentheses, and with all parentheses, are read back. -/
namespace Go.Proofs.YtidclioghdbphaaGreatDoor
end Go.Proofs.YtidclioghdbphaaGreatDoor
/- Plain: expressions with all parentheses are read back: the cases beside two operands. -/
namespace Go.Proofs.YtidclioghdbphaaGreatDoor
end Go.Proofs.YtidclioghdbphaaGreatDoor
/- Plain: an expression with all parentheses is read back. -/
namespace Go.Proofs.YtidclioghdbphaaGreatDoor
end Go.Proofs.YtidclioghdbphaaGreatDoor
/- Plain: the text of an expression with all parentheses has its tokens. -/
namespace Go.Proofs.YtidclioghdbphaaGreatDoor
variable {r:Str}
theorem bR2 {c:UInt8} {t:Str} (hsh:(c::t).length<=1000000) (hall:(c::t).all iZ=true) (h2:t=[]\/c≠48) (hr:∀ d,r.head? = some d->iZ d=false):Tok (3,c::t) r:=by
 have hp:pre iZ ((c::t)++r)=(c::t).length:=MI hall hr;rw [gJ,aE] at hall;have hb:=aM3 c hall.1;refine ⟨by simp,?_,tP hb.1 (λe=>hb.2.1 e.1),(show (3:UInt8)≠5 by decide),hsh⟩;show dD ((c::t)++r)=(3,(c::t).length);unfold dD;simp only;rw [show ((c::t)++r).headD 0=c from rfl,hb.2.2.2.2.2,aA aS,hall.1,aK rfl,hp];refine aK ?_;rcases h2 with rfl | h2
 ·exact .inl Z
 ·exact .inr h2
end Go.Proofs.YtidclioghdbphaaGreatDoor
namespace Go.Proofs.YtidclioghdbphaaGreatDoor
open Go.RowKit Go.Par Go.Sx
def tqN (n:Str):List Kt:=match eN n with | some (a,b)=>[(1,a),(4,[46]),(1,b)] | none=>[(1,n)]
def prQ (b:Bool) (l:List Kt):List Kt:=if b then (4,[40])::(l++[(4,[41])]) else l
def hdQ (l:List (UInt8 × List Kt)):UInt8 × List Kt:=l.headD (0,[])
def tqO (op:UInt8) (nm:Str) (n:Int64) (l:List (UInt8 × List Kt)):List Kt :=
 if op=1 then [(3,Lib.itoa n.toInt)]
 else if op=4 then [(2,[110,111,119])]
 else if op=5 then tqN nm
 else if op=6 then tqN nm++((4,[91])::((hdQ l).2++[(4,[93])]))
 else if op=8 then (2,[115,105,122,101])::tqN nm
 else if op=9 then (4,[45])::prQ (decide (tlv (hdQ l).1<6)) (hdQ l).2
 else if op=11\/op=12\/op=13\/op=14\/op=15 then
  prQ (decide (tlv (hdQ l).1<tlv op)) (hdQ l).2++(4,vK op)::prQ (decide (tlv (hdQ (l.drop 1)).1<tlv op+1)) (hdQ (l.drop 1)).2
 else [(4,[95])]
mutual
def tqT:Ex->List Kt
 | .mk op nm n args=>tqO op nm n (bQ9 args)
def bQ9:List Ex->List (UInt8 × List Kt)
 | []=>[]
 | e::r=>(e.op,tqT e)::bQ9 r
end
theorem WM:∀ l,bQ9 l=l.map λe=>(e.op,tqT e)
 | []=>rfl
 | e::r=>by rw [bQ9,WM r];rfl
theorem aY8 {op:UInt8} {nm:Str} {n:Int64} {args:List Ex} :tqT (.mk op nm n args)=tqO op nm n (args.map λe=>(e.op,tqT e)):=by rw [tqT,WM]
def nmQ (n:Str):Bool:=match eN n with | some (a,b)=>gL a && gL b | none=>gL n
theorem tY:∀ {n a b:Str},eN n=some (a,b)->n=a++([46]:Str)++b
 | [],_,_,h=>by cases h
 | c::r,a,b,h=>by
  rw [eN] at h
  split at h
  ·rename_i hc;cases h;rw [hc];rfl
  ·cases hs:eN r with
   | none=>rw [hs] at h;cases h
   | some x =>
    obtain ⟨y,z⟩:=x;rw [hs] at h;cases h;rw [tY hs];rfl
def wrB (r:Str):Prop:=∀ c,r.head? = some c->kT c=false
variable {w r:Str}
theorem aO9 (hw:gL w=true) (hr:wrB r):Tok (1,w) r:=by
 obtain ⟨h1,hl,hw,h4,h5⟩:=nX hw
 match w,h1 with
 | c::t,h0 =>
  have hlb:=MM c hl;have hp:pre kT ((c::t)++r)=(c::t).length:=MI hw λd hd=>hr d hd;refine ⟨h0,?_,?_,(show (1:UInt8)≠5 by decide),(by show (c::t).length<=1000000;omega)⟩
  ·show dD ((c::t)++r)=(1,(c::t).length);unfold dD;simp only;rw [show ((c::t)++r).headD 0=c from rfl,show pO c=true from hl,aK rfl,hp,iY,h4,aA aS,aK h5]
  ·exact tP hlb.1 (λe=>hlb.2.1 e.1)
theorem Lx.nw {k:List Kt} (hw:gL w=true) (hr:wrB r) (h:Lx r k):Lx (w++r) ((1,w)::k):=.tok (x:=(1,w)) (aO9 hw hr) h
theorem cE2:Tok (4,[95]) r:=by
 refine ⟨by simp,?_,?_,(show (4:UInt8)≠5 by decide),(by show (1:Nat)<=_;omega)⟩
 ·show dD (95::r)=(4,1);simp [dD,pO,iZ,symbols,List.find?,List.isPrefixOf]
 ·show eU false (95::r)=95::r;simp [eU,mS]
theorem cE4:Tok (4,[46,46]) r:=by
 refine ⟨by simp,?_,?_,(show (4:UInt8)≠5 by decide),(by show (2:Nat)<=_;omega)⟩
 ·show dD (46::46::r)=(4,2);simp [dD,pO,iZ,symbols,List.find?,List.isPrefixOf]
 ·show eU false (46::46::r)=46::46::r;simp [eU,mS]
theorem aZ1 {u:Nat} (hu:u<=9223372036854775808) (hr:∀ d,r.head? = some d->iZ d=false):Tok (3,Lib.decDigits u) r:=by
 have hdl:=bZ6 hu;obtain ⟨c,t,e,h2,_⟩:=SR u
 have hall:(Lib.decDigits u).all iZ=true:=bD.2 λd hd=>by
  have:=Plain.digits_are u d hd;simp only [iZ,aE,aB];exact this
 rw [e] at hall hdl|-;exact bR2 aD hall h2 hr
theorem Lx.nd {u:Nat} {k:List Kt} (hu:u<=9223372036854775808) (hr:∀ d,r.head? = some d->iZ d=false) (h:Lx r k):Lx (Lib.decDigits u++r) ((3,Lib.decDigits u)::k):=.tok (x:=(3,Lib.decDigits u)) (aZ1 hu hr) h
theorem OG {n:Int64} (h:0<=n.toInt) {k:List Kt} (hr:∀ d,r.head? = some d->iZ d=false) (hk:Lx r k):Lx (Lib.itoa n.toInt++r) ((3,Lib.itoa n.toInt)::k)/\hdB (Lib.itoa n.toInt++r):=by
 rw [Lib.itoa,aA aD];exact ⟨.nd cQ1 hr hk,bE3⟩
theorem HS (h:AE r):∀ d,r.head? = some d->iZ d=false:=λd e=>bW2 d (h d e).1
def LxN (s:Str) (q:List Kt):Prop:=∀ r ks,AE r->Lx r ks->Lx (s++r) (q++ks)/\hdB (s++r)
theorem aD4 {n:Str} (h:nmQ n=true):LxN n (tqN n):=by
 intro r ks hr hk;unfold nmQ at h;unfold tqN;cases hs:eN n with
 | none =>
  rw [hs] at h;exact ⟨.nm h hr hk,BM h⟩
 | some x =>
  obtain ⟨a,b⟩:=x;rw [hs] at h;simp only [aE] at h;rw [tY hs];simp only [aV,bY,dE];exact ⟨.nw h.1 (λc e=>by cases e;decide) (.sy aS (BM h.2) (.nm h.2 hr hk)),BM h.1⟩
variable {s:Str}
theorem zS {q:List Kt} (h:LxN s q) (b:Bool):LxN (wQ b s) (prQ b q):=by
 intro r ks hr hk;unfold wQ prQ
 split
 ·simp only [bY,dE,aV];obtain ⟨h1,h2⟩:=h (41::r) ((4,[41])::ks) aF7 (.sy aS hr.hd hk);exact ⟨.sy aS h2 h1,yL aS⟩
 ·exact h r ks hr hk
theorem bR4:∀ op∈([11,12,13,14,15,16,17,18,19,20,21]:List UInt8),vK op∈cF0\/∃ c∈bR5,vK op=[c]:=by decide +kernel
theorem bF6 {op:UInt8} (h:op∈([11,12,13,14,15,16,17,18,19,20,21]:List UInt8)) {k:List Kt} (hk:Lx r k):Lx ([32]++(vK op++([32]++r))) ((4,vK op)::k):=by
 refine .sp ?_;have hs:Lx ([32]++r) k:=hk.sp;rcases bR4 op h with hw | ⟨c,hc,hw⟩
 ·exact .tok (x:=(4,vK op)) (aJ3 hw) hs
 ·rw [hw];exact .sy hc oS.hd hs
theorem GM {op:UInt8} {nm:Str} {n:Int64} {args:List Ex} (h:oT (.mk op nm n args)=false):(op=5\/op=6\/op=8->nmQ nm=true)/\(op=6\/op=8->(eN nm).isSome=true)/\∀ a∈args,oT a=false:=by
 rw [aK5,aZ3,mK] at h;obtain ⟨h1,h2⟩:=h;rw [Bool.not_eq_false'] at h1;unfold tnB at h1;refine ⟨λho=>?_,λho=>?_,λa ha=>?_⟩
 ·rw [aK ho] at h1;unfold nmQ;cases hs:eN nm with
  | none=>rw [hs] at h1;simp only [aE] at h1;exact h1.2
  | some x=>rw [hs] at h1;exact h1
 ·rw [aK (.inr ho)] at h1;cases hs:eN nm with
  | none=>rw [hs] at h1;rcases ho with rfl | rfl <;> simp at h1
  | some x=>rfl
 ·cases hm:oT a with
  | false=>rfl
  | true=>rw [gA.2 ⟨a,ha,hm⟩] at h2;cases h2
theorem NJ {op:UInt8} {nm:Str} {n:Int64} {args:List Ex} (h:eI (.mk op nm n args)=true) :
 (op=1/\nm=[]/\0<=n.toInt/\args=[])\/(op=4/\nm=[]/\n=0/\args=[])\/((op=5\/op=8)/\n=0/\args=[])\/(op=6/\n=0/\∃ a,args=[a]/\eI a=true)\/(op=9/\nm=[]/\n=0/\∃ a,args=[a]/\eI a=true) \/
 (op∈([11,12,13,14,15]:List UInt8)/\nm=[]/\n=0/\∃ a b,args=[a,b]/\eI a=true/\eI b=true):=by
 rw [eI] at h
 split at h
 ·rename_i e;simp only [aE,aB] at h;exact .inl ⟨e,h.1.1,h.1.2,bK h.2⟩
 split at h
 ·rename_i e;simp only [aE,aB] at h;exact .inr (.inl ⟨e,h.1.1,h.1.2,bK h.2⟩)
 split at h
 ·rename_i e;simp only [aE,aB] at h;exact .inr (.inr (.inl ⟨e,h.1,bK h.2⟩))
 split at h
 ·rename_i e;simp only [aE,aB,tO] at h;obtain ⟨a,rfl⟩:=cD1 h.2.2;exact .inr (.inr (.inr (.inl ⟨e,h.1,a,Z,by simpa using h.2.1⟩)))
 split at h
 ·rename_i e;simp only [aE,aB,tO] at h;obtain ⟨a,rfl⟩:=cD1 h.2.2;exact .inr (.inr (.inr (.inr (.inl ⟨e,h.1.1,h.1.2,a,Z,by simpa using h.2.1⟩))))
 split at h
 ·rename_i e;simp only [aE,aB,tO] at h;obtain ⟨a,b,rfl⟩:=PL (l:=args) h.2.2;refine .inr (.inr (.inr (.inr (.inr ⟨?_,h.1.1,h.1.2,a,b,Z,?_⟩))))
  ·simpa using e
  ·simpa using h.2.1
 ·cases h
theorem XS (e:Ex):eI e=true->oT e=false->LxN (tmT e) (tqT e):=by
 induction e using Ex.ind with
 | _ op nm n args ih =>
  intro h hm r ks hr hk;obtain ⟨m1,m2,m3⟩:=GM hm;rcases NJ h with ⟨rfl,rfl,hn,rfl⟩ | ⟨rfl,rfl,rfl,rfl⟩ | ⟨ho,rfl,rfl⟩ | ⟨rfl,rfl,a,rfl,ha⟩ | ⟨rfl,rfl,rfl,a,rfl,ha⟩ | ⟨ho,rfl,rfl,a,b,rfl,ha,hb⟩
  ·exact OG hn (HS hr) hk
  ·exact ⟨Lx.kw (w:=[110,111,119]) aS hr hk,DB (w:=[110,111,119]) aS⟩
  ·rcases ho with rfl | rfl
   ·exact aD4 (m1 (.inl Z)) r ks hr hk
   ·obtain ⟨k1,_⟩:=aD4 (m1 (.inr (.inr Z))) r ks hr hk;exact ⟨Lx.kw (w:=[115,105,122,101]) aS oS (.sp k1),DB (w:=[115,105,122,101]) aS⟩
  ·obtain ⟨k1,k2⟩:=ih a fG ha (m3 a fG) (93::r) ((4,[93])::ks) aG1 (.sy aS hr.hd hk);obtain ⟨k3,k4⟩:=aD4 (m1 (.inr (.inl Z))) (91::(tmT a++93::r)) ((4,[91])::(tqT a++(4,[93])::ks)) aF9 (.sy aS k2 k1);have e1:tmT (.mk 6 nm 0 [a])++r=nm++(91::(tmT a++93::r)):=by rw [wG];simp [aA6]
   have e2:tqT (.mk 6 nm 0 [a])++ks=tqN nm++((4,[91])::(tqT a++(4,[93])::ks)):=by rw [aY8];simp [tqO,hdQ]
   rw [e1,e2];exact ⟨k3,k4⟩
  ·obtain ⟨k1,k2⟩:=zS (ih a fG ha (m3 a fG)) (decide (tlv a.op<6)) r ks hr hk;exact ⟨.sy (c:=45) aS k2 k1,yL aS⟩
  ·have ho2:op=11\/op=12\/op=13\/op=14\/op=15:=by simpa using ho
   obtain ⟨k1,_⟩:=zS (ih b fG hb (m3 b fG)) (decide (tlv b.op<tlv op+1)) r ks hr hk;have k2:=bF6 (op:=op) (by rcases ho2 with rfl | rfl | rfl | rfl | rfl <;> decide) k1;obtain ⟨k3,k4⟩:=zS (ih a fG ha (m3 a fG)) (decide (tlv a.op<tlv op)) _ _ oS k2
   have e1:tmT (.mk op [] 0 [a,b])++r=wQ (decide (tlv a.op<tlv op)) (tmT a)++([32]++(vK op++([32]++(wQ (decide (tlv b.op<tlv op+1)) (tmT b)++r)))):=by
    rw [tmb ho2 fG fG];simp only [aV];rfl
   have e2:tqT (.mk op [] 0 [a,b])++ks=prQ (decide (tlv a.op<tlv op)) (tqT a)++(4,vK op)::(prQ (decide (tlv b.op<tlv op+1)) (tqT b)++ks):=by
    rw [aY8];rcases ho2 with rfl | rfl | rfl | rfl | rfl <;> simp [tqO,hdQ]
   rw [e1,e2];exact ⟨k3,k4⟩
def aD5 (n:Int):List Kt:=if n<0 then [(4,[45]),(3,Lib.decDigits n.natAbs)] else [(3,Lib.itoa n)]
theorem bF7 {n:Int64} {k:List Kt} (hr:∀ d,r.head? = some d->iZ d=false) (hk:Lx r k):Lx (Lib.itoa n.toInt++r) (aD5 n.toInt++k)/\hdB (Lib.itoa n.toInt++r):=by
 unfold aD5
 by_cases h:n.toInt<0
 ·rw [aK h,Lib.itoa,aK h];have:=n.le_toInt;exact ⟨.sy (c:=45) aS bE3 (.nd aD hr hk),yL aS⟩
 ·rw [aA h];exact OG aD hr hk
def CN (f:Fm):List Kt:=if !(cK f.op).wn || decide (f.b.toInt<0) then [] else [(4,[91]),(3,Lib.itoa f.a.toInt),(4,[44]),(3,Lib.itoa f.b.toInt),(4,[93])]
def LP (f:Fm):List Kt:=(1,f.nm)::(2,[105,110])::(aD5 f.a.toInt++(4,[46,46])::aD5 f.b.toInt)
def GO:List (List Kt)->List Kt
 | []=>[]
 | [x]=>x
 | x::r=>x++(4,[44])::GO r
def fqO (f:Fm) (l:List (UInt8 × List Kt)):List Kt :=
 if f.op=3 then tqT (ex0 (exH f))++(4,vK (exH f).op)::tqT (ex1 (exH f))
 else if f.op=4 then [(1,f.nm),(4,[46]),(1,f.fd)]
 else if f.op=5 then (2,[104,97,115])::(1,f.nm)::(4,[46])::(1,f.fd)::(4,[91])::(tqT (exH f)++[(4,[93])])
 else if f.op=6 then [(2,[102,108,97,103]),(1,f.nm)]
 else if f.op=7 then (2,[97,114,114,105,118,101,115])::(1,f.nm)::(4,[46])::(1,f.fd)::(4,[40])::(GO (f.ex.map tqT)++[(4,[41])])
 else if f.op=8\/f.op=12\/f.op=13\/f.op=14 then (2,iQ f.op)::(CN f++prQ (decide ((cK (hdQ l).1).lv<5)) (hdQ l).2)
 else if f.op=16\/f.op=17 then (2,iQ f.op)::(LP f++prQ (decide ((cK (hdQ l).1).lv<5)) (hdQ l).2)
 else if f.op=18 then (2,iQ f.op)::(LP f++(4,[40])::((hdQ l).2++(4,[41])::(4,[62,61])::tqT (exH f)))
 else if f.op=15\/f.op=9\/f.op=10\/f.op=11 then
  prQ (decide ((cK (hdQ l).1).lv<(cK f.op).lv)) (hdQ l).2++(2,iQ f.op)::(CN f++prQ (decide ((cK (hdQ (l.drop 1)).1).lv<(cK f.op).lv+1)) (hdQ (l.drop 1)).2)
 else [(2,iQ f.op)]
mutual
def tqF:Fm->List Kt
 | .mk op nm fd a b ex args=>fqO (.mk op nm fd a b ex args) (bR0 args)
def bR0:List Fm->List (UInt8 × List Kt)
 | []=>[]
 | f::r=>(f.op,tqF f)::bR0 r
end
theorem WN:∀ l,bR0 l=l.map λf=>(f.op,tqF f)
 | []=>rfl
 | e::r=>by rw [bR0,WN r];rfl
variable {a:Int64}
theorem FM {op:UInt8} {nm fd:Str} {b:Int64} {ex:List Ex} {args:List Fm} :tqF (.mk op nm fd a b ex args)=fqO (.mk op nm fd a b ex args) (args.map λf=>(f.op,tqF f)):=by rw [tqF,WN]
def bnW (a b:Int64):Prop:=(a=0/\b=-1)\/(0<=a.toInt/\a.toInt<=b.toInt/\b.toInt<=200)
inductive Fg7:Fm->Prop
 | tf {op:UInt8} (h:op=1\/op=2):Fg7 (.mk op [] [] 0 0 [] [])
 | cmp {o:UInt8} {x y:Ex} (h:o∈([16,17,18,19,20,21]:List UInt8)) (hx:eI x=true) (hy:eI y=true):Fg7 (.mk 3 [] [] 0 0 [.mk o [] 0 [x,y]] [])
 | var {nm fd:Str}:Fg7 (.mk 4 nm fd 0 0 [] [])
 | has {nm fd:Str} {x:Ex} (hx:eI x=true):Fg7 (.mk 5 nm fd 0 0 [x] [])
 | flg {nm:Str}:Fg7 (.mk 6 nm [] 0 0 [] [])
 | arr {nm fd:Str} {ex:List Ex} (hl:ex.length<=4) (hx:∀ x∈ex,x=zE\/eI x=true):Fg7 (.mk 7 nm fd 0 0 ex [])
 | un {op:UInt8} {g:Fm} (h:op=8\/op=12):Fg7 (.mk op [] [] 0 0 [] [g])
 | win {op:UInt8} {a b:Int64} {g:Fm} (h:op=13\/op=14) (hw:bnW a b):Fg7 (.mk op [] [] a b [] [g])
 | amo {op:UInt8} {nm:Str} {a b:Int64} {g:Fm} (h:op=16\/op=17) (ha:-1000000<=a.toInt) (hb:-1000000<=b.toInt):Fg7 (.mk op nm [] a b [] [g])
 | cnt {nm:Str} {a b n:Int64} {g:Fm} (ha:-1000000<=a.toInt) (hb:-1000000<=b.toInt) (hn:0<=n.toInt):Fg7 (.mk 18 nm [] a b [.mk 1 [] n []] [g])
 | bin {op:UInt8} {g h:Fm} (ho:op=9\/op=10\/op=11):Fg7 (.mk op [] [] 0 0 [] [g,h])
 | snc {a b:Int64} {g h:Fm} (hw:bnW a b):Fg7 (.mk 15 [] [] a b [] [g,h])
theorem cS6 {op:UInt8} (h:op.toNat<=18):op∈([0,1,2,3,4,5,6,7,8,9,10,11,12,13,14,15,16,17,18]:List UInt8):=by
 revert h
 exact pK (q:=λop=>op.toNat<=18->op∈([0,1,2,3,4,5,6,7,8,9,10,11,12,13,14,15,16,17,18]:List UInt8)) qS op
theorem cF9 {op:UInt8} (h:16<=op.toNat/\op.toNat<=21):op∈([16,17,18,19,20,21]:List UInt8):=by
 revert h
 exact pK (q:=λop=>16<=op.toNat/\op.toNat<=21->op∈([16,17,18,19,20,21]:List UInt8)) qS op
theorem aG4 {e:Ex} (h:CM e=true):e=zE:=by
 obtain ⟨op,nm,n,args⟩:=e;simp only [CM,aE,aB] at h;obtain ⟨⟨⟨rfl,rfl⟩,rfl⟩,h⟩:=h;rw [bK h];rfl
theorem QK {α:Type} {l:List α} (h:l.length=1):∃ a,l=[a]:=List.length_eq_one_iff.1 h
theorem bH0 {α:Type} {l:List α} (h:l.length=2):∃ a b,l=[a,b]:=by
 match l,h with
 | [a,b],_=>exact ⟨a,b,Z⟩
theorem cR0 {op:UInt8} {nm fd:Str} {b:Int64} {ex:List Ex} {args:List Fm} (h:DU (.mk op nm fd a b ex args)=true):(((cK op).wn=true/\bnW a b)\/((cK op).wn=false/\(cK op).am=true/\-1000000<=a.toInt/\-1000000<=b.toInt))\/((cK op).wn=false/\(cK op).am=false/\a=0/\b=0):=by
 replace h:(if (cK op).wn=true then (decide (a=0) && decide (b.toInt=-1)) || (decide (0<=a.toInt) && decide (a.toInt<=b.toInt) && decide (b.toInt<=200))
  else if (cK op).am=true then decide (-1000000<=a.toInt) && decide (a.toInt<=b.toInt) && decide (b.toInt<=1000000) && decide (b.toInt - a.toInt<32)
  else decide (a=0) && decide (b=0))=true:=h
 cases hw:(cK op).wn with
 | true =>
  rw [aK hw] at h;simp only [aW,aE,aB] at h;refine .inl (.inl ⟨Z,?_⟩);rcases h with h | h
  ·exact .inl ⟨h.1,nK.1 h.2⟩
  ·exact .inr ⟨h.1.1,h.1.2,h.2⟩
 | false =>
  rw [aA (by rw [hw];decide)] at h;cases ha:(cK op).am with
  | true =>
   rw [aK ha] at h;simp only [aE,aB] at h;exact .inl (.inr ⟨Z,Z,aD,aD⟩)
  | false =>
   rw [aA (by rw [ha];decide)] at h;simp only [aE,aB] at h;exact .inr ⟨Z,Z,h.1,h.2⟩
theorem cL3 {e:Ex} (h:KA e=true):∃ o x y,e=.mk o [] 0 [x,y]/\o∈([16,17,18,19,20,21]:List UInt8)/\eI x=true/\eI y=true:=by
 obtain ⟨o,nm,n,args⟩:=e;simp only [KA,aE,aB,tO] at h;obtain ⟨⟨⟨⟨h1,h2⟩,rfl⟩,rfl⟩,h3,h4⟩:=h;obtain ⟨x,y,rfl⟩:=bH0 h4;have h3':eI x=true/\eI y=true:=by simpa using h3
 exact ⟨o,x,y,Z,cF9 ⟨h1,h2⟩,h3'.1,h3'.2⟩
theorem IB {op:UInt8} {nm fd:Str} {b:Int64} {ex:List Ex} {args:List Fm} (h:jJ (.mk op nm fd a b ex args)=true):Fg7 (.mk op nm fd a b ex args):=by
 have hop:=cS6 (VE h);have hB:=cR0 (kJ h).2.2.2;have hE:=(kJ h).2.2.1;have hA:=(kJ h).2.1;have hL:=(kJ h).1
 have hN:((cK op).nm=false->nm=[])/\((cK op).fd=false->fd=[]):=by
  unfold jJ at h;rw [aE,aE,aE,aE,aE,aW,aW] at h;exact ⟨λe=>aI (h.1.1.1.1.2.resolve_left (by show ¬ (cK op).nm=true;rw [e];decide)),λe=>aI (h.1.1.1.2.resolve_left (by show ¬ (cK op).fd=true;rw [e];decide))⟩
 clear h
 replace hE:(if op=7 then decide (ex.length<=4) && ex.all λe=>CM e || eI e
  else decide (ex.length=(cK op).ex) && (if op=3 then KA (ex.headD (.mk 0 [] 0 [])) else if op=5 then eI (ex.headD (.mk 0 [] 0 []))
  else if op=18 then decide ((ex.headD (.mk 0 [] 0 [])).op=1) && eI (ex.headD (.mk 0 [] 0 [])) && decide ((ex.headD (.mk 0 [] 0 [])).n.toInt<=32) else true))=true:=hE
 have ab:(cK op).wn=false->(cK op).am=false->a=0/\b=0:=λh1 h2=>by
  rcases hB with (⟨e,_⟩ | ⟨_,e,_⟩) | ⟨_,_,e⟩
  ·rw [h1] at e;cases e
  ·rw [h2] at e;cases e
  ·exact e
 have aw:(cK op).wn=true->bnW a b:=λh1=>by
  rcases hB with (⟨_,e⟩ | ⟨e,_⟩) | ⟨e,_⟩
  ·exact e
  ·rw [h1] at e;cases e
  ·rw [h1] at e;cases e
 have am:(cK op).wn=false->(cK op).am=true->-1000000<=a.toInt/\-1000000<=b.toInt:=λh1 h2=>by
  rcases hB with (⟨e,_⟩ | ⟨_,_,e⟩) | ⟨_,e,_⟩
  ·rw [h1] at e;cases e
  ·exact e
  ·rw [h2] at e;cases e
 clear hB;simp only [bM,List.not_mem_nil,or_false] at hop
 have e0 {op:UInt8} (h7:¬ op=7) (h3:¬ op=3) (h5:¬ op=5) (h18:¬ op=18) (k:(cK op).ex=0) (hE:(if op=7 then decide (ex.length<=4) && ex.all λe=>CM e || eI e
  else decide (ex.length=(cK op).ex) && (if op=3 then KA (ex.headD (.mk 0 [] 0 [])) else if op=5 then eI (ex.headD (.mk 0 [] 0 []))
  else if op=18 then decide ((ex.headD (.mk 0 [] 0 [])).op=1) && eI (ex.headD (.mk 0 [] 0 [])) && decide ((ex.headD (.mk 0 [] 0 [])).n.toInt<=32) else true))=true):ex=[]:=by
  rw [aA h7,aA h3,aA h5,aA h18,cW,aB,k] at hE;exact bK hE
 rcases hop with rfl | rfl | rfl | rfl | rfl | rfl | rfl | rfl | rfl | rfl | rfl | rfl | rfl | rfl | rfl | rfl | rfl | rfl | rfl
 ·exact absurd rfl hL
 ·obtain ⟨rfl,rfl⟩:=ab rfl rfl;obtain rfl:=hN.1 rfl;obtain rfl:=hN.2 rfl;obtain rfl:=e0 aS aS aS aS rfl hE;obtain rfl:=bK hA;exact .tf (.inl Z)
 ·obtain ⟨rfl,rfl⟩:=ab rfl rfl;obtain rfl:=hN.1 rfl;obtain rfl:=hN.2 rfl;obtain rfl:=e0 aS aS aS aS rfl hE;obtain rfl:=bK hA;exact .tf (.inr Z)
 ·obtain ⟨rfl,rfl⟩:=ab rfl rfl;obtain rfl:=hN.1 rfl;obtain rfl:=hN.2 rfl;obtain rfl:=bK hA;rw [aA aS,aK rfl,aE,aB] at hE;obtain ⟨e,rfl⟩:=QK hE.1;obtain ⟨o,x,y,rfl,h1,h2,h3⟩:=cL3 hE.2;exact .cmp h1 h2 h3
 ·obtain ⟨rfl,rfl⟩:=ab rfl rfl;obtain rfl:=e0 aS aS aS aS rfl hE;obtain rfl:=bK hA;exact .var
 ·obtain ⟨rfl,rfl⟩:=ab rfl rfl;obtain rfl:=bK hA;rw [aA aS,aA aS,aK rfl,aE,aB] at hE;obtain ⟨e,rfl⟩:=QK hE.1;exact .has hE.2
 ·obtain ⟨rfl,rfl⟩:=ab rfl rfl;obtain rfl:=hN.2 rfl;obtain rfl:=e0 aS aS aS aS rfl hE;obtain rfl:=bK hA;exact .flg
 ·obtain ⟨rfl,rfl⟩:=ab rfl rfl;obtain rfl:=bK hA;rw [aK rfl,aE,aB] at hE;refine .arr hE.1 λx hx=>?_;have:=bD.1 hE.2 x hx;rw [aW] at this;exact this.imp aG4 id
 ·obtain ⟨rfl,rfl⟩:=ab rfl rfl;obtain rfl:=hN.1 rfl;obtain rfl:=hN.2 rfl;obtain rfl:=e0 aS aS aS aS rfl hE;obtain ⟨g,rfl⟩:=QK hA;exact .un (.inl Z)
 ·obtain ⟨rfl,rfl⟩:=ab rfl rfl;obtain rfl:=hN.1 rfl;obtain rfl:=hN.2 rfl;obtain rfl:=e0 aS aS aS aS rfl hE;obtain ⟨g,h,rfl⟩:=bH0 hA;exact .bin (.inl Z)
 ·obtain ⟨rfl,rfl⟩:=ab rfl rfl;obtain rfl:=hN.1 rfl;obtain rfl:=hN.2 rfl;obtain rfl:=e0 aS aS aS aS rfl hE;obtain ⟨g,h,rfl⟩:=bH0 hA;exact .bin (.inr (.inl Z))
 ·obtain ⟨rfl,rfl⟩:=ab rfl rfl;obtain rfl:=hN.1 rfl;obtain rfl:=hN.2 rfl;obtain rfl:=e0 aS aS aS aS rfl hE;obtain ⟨g,h,rfl⟩:=bH0 hA;exact .bin (.inr (.inr Z))
 ·obtain ⟨rfl,rfl⟩:=ab rfl rfl;obtain rfl:=hN.1 rfl;obtain rfl:=hN.2 rfl;obtain rfl:=e0 aS aS aS aS rfl hE;obtain ⟨g,rfl⟩:=QK hA;exact .un (.inr Z)
 ·obtain rfl:=hN.1 rfl;obtain rfl:=hN.2 rfl;obtain rfl:=e0 aS aS aS aS rfl hE;obtain ⟨g,rfl⟩:=QK hA;exact .win (.inl Z) (aw Z)
 ·obtain rfl:=hN.1 rfl;obtain rfl:=hN.2 rfl;obtain rfl:=e0 aS aS aS aS rfl hE;obtain ⟨g,rfl⟩:=QK hA;exact .win (.inr Z) (aw Z)
 ·obtain rfl:=hN.1 rfl;obtain rfl:=hN.2 rfl;obtain rfl:=e0 aS aS aS aS rfl hE;obtain ⟨g,h,rfl⟩:=bH0 hA;exact .snc (aw Z)
 ·obtain rfl:=hN.2 rfl;obtain rfl:=e0 aS aS aS aS rfl hE;obtain ⟨g,rfl⟩:=QK hA;exact .amo (.inl Z) (am Z Z).1 (am Z Z).2
 ·obtain rfl:=hN.2 rfl;obtain rfl:=e0 aS aS aS aS rfl hE;obtain ⟨g,rfl⟩:=QK hA;exact .amo (.inr Z) (am Z Z).1 (am Z Z).2
 ·obtain rfl:=hN.2 rfl;obtain ⟨g,rfl⟩:=QK hA;rw [aA aS,aA aS,aA aS,aK rfl,aE,aB] at hE;obtain ⟨e,rfl⟩:=QK hE.1;have hE2:=hE.2;simp only [bU,aE,aB] at hE2;obtain ⟨o,m,n,al⟩:=e;obtain ⟨⟨ho,ht⟩,_⟩:=hE2;obtain rfl:o=1:=by first | exact ho | exact aI ho
  rcases NJ ht with ⟨_,rfl,h3,rfl⟩ | ⟨k,_⟩ | ⟨k,_⟩ | ⟨k,_⟩ | ⟨k,_⟩ | ⟨k,_⟩
  ·exact .cnt (am Z Z).1 (am Z Z).2 h3
  ·cases k
  ·rcases k with k | k <;> cases k
  ·cases k
  ·cases k
  ·exact absurd k aS
theorem ML {op:UInt8} {nm fd:Str} {b:Int64} {ex:List Ex} {args:List Fm} (h:rN (.mk op nm fd a b ex args)=true):((cK op).nm=true->gL nm=true)/\((cK op).fd=true->gL fd=true)/\∀ e∈ex,oT e=false:=by
 replace h:(!((cK op).nm && !gL nm || (cK op).fd && !gL fd) && !LB ex)=true:=h;simp only [aE,eT,mK,pD,Bool.not_eq_false'] at h;obtain ⟨⟨h1,h2⟩,h3⟩:=h;refine ⟨λe=>h1.resolve_left (by rw [e];decide),λe=>h2.resolve_left (by rw [e];decide),λe he=>?_⟩;rw [JN] at h3;cases hm:oT e with
 | false=>rfl
 | true=>rw [gA.2 ⟨e,he,hm⟩] at h3;cases h3
section
variable {l:Tks} {r r' r1 r2 ra:Rq} {w w':Str} {k:UInt8} {N x n:Fn} {m:Bool} {i j b:Nat}
def Sps (l:Tks):Rq->List Kt->Rq->Prop
 | r,[],r'=>r.er=0/\r'=r
 | r,x::ks,r'=>(r.er=0/\kt (tkf l r.i)=x)/\Sps l r.nx ks r'
theorem sJ:∀ {ks:List Kt} {r r':Rq},Sps l r ks r'->r.er=0/\r'.er=0
 | [],_,_,⟨h,e⟩=>by subst e;exact ⟨h,h⟩
 | _::_,_,_,⟨h,h2⟩=>⟨h.1,(sJ h2).2⟩
theorem nV:∀ {a b:List Kt} {r r':Rq},Sps l r (a++b) r'->∃ m,Sps l r a m/\Sps l m b r'
 | [],_,r,_,h=>⟨r,⟨(sJ h).1,Z⟩,h⟩
 | _::_,_,_,_,⟨h,h2⟩=>by
  obtain ⟨m,p,q⟩:=nV h2;exact ⟨m,⟨h,p⟩,q⟩
theorem bA6:∀ (ks:List Kt) (i:Nat),(∀ j (h:j<ks.length),kt (tkf l (i+j))=ks[j])->Sps l ⟨i,0,0⟩ ks ⟨i+ks.length,0,0⟩
 | [],_,_=>⟨Z,Z⟩
 | x::ks,i,h=>by
  refine ⟨⟨Z,h 0 fG⟩,?_⟩
  have:=bA6 ks (i+1) λj hj=>by
   have:=h (j+1) (by simpa using hj);rw [show i+1+j=i+(j+1) by omega,this];rfl
  rw [aF,show i+(ks.length+1)=i+1+ks.length by omega];exact this
theorem QL {t:Tk} (h:kt t=(k,w)):t.k=k:=congrArg Prod.fst h
theorem bH3 {t:Tk} (h:kt t=(k,w)):t.t=w:=congrArg Prod.snd h
theorem wL (h:r.er=0/\kt (tkf l r.i)=(k,w)) (hk:k=2\/k=4):r.ac l w=true:=by
 unfold Rq.ac Rq.is;rw [QL h.2,bH3 h.2,aG h.1];rcases hk with rfl | rfl <;> simp
theorem cB4 (h:r.er=0/\kt (tkf l r.i)=(k,w)) (hn:¬ w=w'):r.ac l w'=false:=by
 unfold Rq.ac Rq.is;rw [bH3 h.2,aL hn,Bool.and_false,Bool.and_false]
theorem cU0 (h:r.er=0/\kt (tkf l r.i)=(k,w)) (hn:k=1\/k=3):r.ac l w'=false:=XY (by rw [QL h.2];rcases hn with rfl | rfl <;> decide)
theorem IM (h:r.er=0/\kt (tkf l r.i)=(k,w)) (hk:k=2\/k=4):r.exS l w=r.nx:=SQ (wL h hk)
theorem LK (h:r.er=0/\kt (tkf l r.i)=(1,w)):r.nmS l=r.nx:=XO h.1 (QL h.2)
theorem DZ (h:r.er=0/\kt (tkf l r.i)=(1,w)):r.nmV l=w:=by rw [bE9 h.1 (QL h.2),bH3 h.2]
theorem cR9 {u:Nat} (h:r.er=0/\kt (tkf l r.i)=(3,Lib.decDigits u)) (hu:u<=9223372036854775807):r.nbS l=r.nx/\r.nbV l=Int64.ofNat u:=by
 have h1:r.nbB l=true:=by unfold Rq.nbB;rw [aG h.1,aG (QL h.2)];rfl
 have h2:r.fit l=true:=by unfold Rq.fit;rw [bH3 h.2,LA];exact aG hu
 unfold Rq.nbS Rq.nbV;rw [aK h1,aK h2,h1,h2,bH3 h.2,LA];exact ⟨Z,Z⟩
theorem cN7 {n:Int64} (h:0<=n.toInt):Int64.ofNat n.toInt.toNat=n:=by
 have:=n.toInt_lt;exact nK.1 (by rw [iC aD];omega)
theorem bO4 {n:Int64} (h:r.er=0/\kt (tkf l r.i)=(3,Lib.itoa n.toInt)) (hn:0<=n.toInt):r.nbS l=r.nx/\r.nbV l=n:=by
 rw [Lib.itoa,aA aD] at h;have:=n.toInt_lt;have:=cR9 h aD;rw [cN7 hn] at this;exact this
def cP4:List Str:=[[91],[41],[95]]
def cB9:List Str:=[[110,111,116],[112,114,101,118,105,111,117,115],[111,110,99,101],[97,108,119,97,121,115],[102,111,114,97,108,108],[101,120,105,115,116,115],[99,111,117,110,116]]
theorem nP {L:List Str} (h:r.ac l w=true) (hn:∀ x∈L,w≠x):∀ x∈L,r.ac l x=false:=λx hx=>wU h (hn x hx)
theorem DE {nt:Nt} (g:Gd l nt r n m r'):∀ k,nt=.lev k->r'.er=0->(∀ x∈cP4,r.ac l x=false)/\(6<=k->∀ x∈cB9,r.ac l x=false)/\(k=10->r.ac l [45]=false):=by
 have b0:∀ {nt:Nt} {r r':Rq} {n:Fn} {m:Bool},Gd l nt r n m r'->r'.er=0->r.er=0:=λg e=>Classical.byContradiction λh=>h (by rw [<-DG g h];exact e);induction g with
 | seq hk h1 h2 i1 i2 =>
  rintro k' e e2;cases e;obtain ⟨a,b,_⟩:=i1 _ rfl (b0 h2 e2);exact ⟨a,λh=>b aD,λh=>by omega⟩
 | outJ=>rintro _ e _;cases e
 | outA=>rintro _ e _;cases e
 | join=>rintro _ e _;cases e
 | ari=>rintro _ e _;cases e
 | @pre w op r r1 x m hp h h1 =>
  rintro k' e e2;cases e;refine ⟨nP h ?_,λh=>by omega,λh=>by omega⟩;have:∀ p∈LN,∀ x∈cP4,p.1≠x:=aS
  exact this _ hp
 | cnt h =>
  rintro k' e e2;cases e;exact ⟨nP h aS,λh=>by omega,λh=>by omega⟩
 | cmp0 hp hc h1 i1 =>
  rintro k' e e2;cases e;exact ⟨(i1 _ rfl e2).1,λh=>by omega,λh=>by omega⟩
 | cm0 h1 h i1 =>
  rintro k' e e2;cases e;exact ⟨(i1 _ rfl e2).1,λ_=>(i1 _ rfl e2).2.1 aS,λh=>by omega⟩
 | cm1 hi h1 h h2 i1 i2 =>
  rintro k' e e2;cases e;have e1:=jR h;exact ⟨(i1 _ rfl e1).1,λ_=>(i1 _ rfl e1).2.1 aS,λh=>by omega⟩
 | neg h =>
  rintro k' e e2;cases e;exact ⟨nP h aS,λ_=>nP h aS,λh=>by omega⟩
 | pri h h1 i1 =>
  rintro k' e e2;cases e;exact ⟨(i1 _ rfl e2).1,λ_=>(i1 _ rfl e2).2.1 aS,λh=>by omega⟩
 | bad h=>rintro k' e e2;exact absurd e2 h
 | num h hk =>
  rintro k' e e2;have:=λw=>XY (l:=l) (w:=w) (by rw [hk];decide);exact ⟨λx _=>this x,λ_ x _=>this x,λ_=>this _⟩
 | now h=>rintro k' e e2;exact ⟨nP h aS,λ_=>nP h aS,λ_=>wU h aS⟩
 | tru h=>rintro k' e e2;exact ⟨nP h aS,λ_=>nP h aS,λ_=>wU h aS⟩
 | fal h=>rintro k' e e2;exact ⟨nP h aS,λ_=>nP h aS,λ_=>wU h aS⟩
 | flg h=>rintro k' e e2;exact ⟨nP h aS,λ_=>nP h aS,λ_=>wU h aS⟩
 | has h=>rintro k' e e2;exact ⟨nP h aS,λ_=>nP h aS,λ_=>wU h aS⟩
 | arr0 h=>rintro k' e e2;exact ⟨nP h aS,λ_=>nP h aS,λ_=>wU h aS⟩
 | arr h=>rintro k' e e2;exact ⟨nP h aS,λ_=>nP h aS,λ_=>wU h aS⟩
 | siz h=>rintro k' e e2;exact ⟨nP h aS,λ_=>nP h aS,λ_=>wU h aS⟩
 | par h=>rintro k' e e2;exact ⟨nP h aS,λ_=>nP h aS,λ_=>wU h aS⟩
 | nam0 h hk =>
  rintro k' e e2;have:=λw=>XY (l:=l) (w:=w) (by rw [hk];decide);exact ⟨λx _=>this x,λ_ x _=>this x,λ_=>this _⟩
 | nam1 h hk =>
  rintro k' e e2;have:=λw=>XY (l:=l) (w:=w) (by rw [hk];decide);exact ⟨λx _=>this x,λ_ x _=>this x,λ_=>this _⟩
 | get h hk =>
  rintro k' e e2;have:=λw=>XY (l:=l) (w:=w) (by rw [hk];decide);exact ⟨λx _=>this x,λ_ x _=>this x,λ_=>this _⟩
 | non=>rintro k' e e2;exact absurd e2 (vW aS)
 | arU=>rintro _ e _;cases e
 | arT=>rintro _ e _;cases e
 | afC=>rintro _ e _;cases e
 | afE=>rintro _ e _;cases e
def cuL:List (Nat × Str):=[(20,[46]),(20,[91]),(1,[105,109,112,108,105,101,115]),(2,[111,114]),(3,[97,110,100]),(4,[115,105,110,99,101]),(6,[61,61]),(6,[33,61]),(6,[60]),(6,[60,61]),(6,[62]),(6,[62,61]),(7,[43]),(7,[45]),(8,[42]),(8,[47]),(8,[37])]
def Nx (l:Tks) (k:Nat) (r:Rq):Prop:=∀ x∈cuL,k<=x.1->r.ac l x.2=false
theorem Nx.up (h:Nx l i r) (hj:i<=j):Nx l j r:=λx hx hk=>h x hx (aZ hj hk)
theorem Nx.n9 (h:Nx l 10 r):Nx l 9 r:=λx hx hk=>h x hx ((show ∀ x∈cuL,9<=x.1->10<=x.1 by decide) x hx hk)
theorem Nx.n5 (h:Nx l 6 r):Nx l 5 r:=λx hx hk=>h x hx ((show ∀ x∈cuL,5<=x.1->6<=x.1 by decide) x hx hk)
theorem Nx.tok (h:r.er=0/\kt (tkf l r.i)=(k,w)) (hn:∀ x∈cuL,j<=x.1->¬ w=x.2):Nx l j r:=λx hx hk=>cB4 h (hn x hx hk)
theorem Nx.fin (h:(tkf l r.i).k=0):Nx l j r:=λx _ _=>XY (by rw [h];decide)
theorem Nx.dot (h:Nx l j r) (hj:j<=20):r.ac l [46]=false:=h (20,[46]) aS hj
theorem Nx.brk (h:Nx l j r) (hj:j<=20):r.ac l [91]=false:=h (20,[91]) aS hj
def lpB (j:Nat):Prop:=(1<=j/\j<=4)\/j=7\/j=8
theorem cH7 (h:1<=j/\j<=4):(j,joW j)∈cuL:=by
 have:j=1\/j=2\/j=3\/j=4:=aD
 rcases this with rfl | rfl | rfl | rfl <;> decide
theorem cA5 (h:KE j i):(j,nE.getD i [])∈cuL:=by
 rcases h with ⟨rfl,rfl | rfl⟩ | ⟨rfl,rfl | rfl | rfl⟩ <;> decide
theorem cA2 (h:16<=i) (h2:i<=21):(6,nE.getD i [])∈cuL:=by
 have:i=16\/i=17\/i=18\/i=19\/i=20\/i=21:=aD
 rcases this with rfl | rfl | rfl | rfl | rfl | rfl <;> decide
def Rl (l:Tks) (j:Nat) (r:Rq) (N:Fn) (r':Rq):Prop:=(lpB j->∀ n m r2,Gd l (.lp j N) r' n m r2->Gd l (.lev j) r n m r2)/\(¬ lpB j->Gd l (.lev j) r N false r')
theorem Rl.full (h:Rl l j r N r') (hx:Nx l j r'):Gd l (.lev j) r N false r':=by
 by_cases hj:lpB j
 ·refine h.1 hj _ _ _ ?_;rcases hj with hj | hj
  ·exact .outJ hj (hx _ (cH7 hj) (aY _))
  ·exact .outA hj λi hi=>hx _ (cA5 hi) (aY _)
 ·exact h.2 hj
theorem Rl.of10 (h:Gd l (.lev 10) r N false r'):Rl l 10 r N r':=⟨λe=>by unfold lpB at e;omega,λ_=>h⟩
theorem Rl.dn (h:Gd l (.lev (j+1)) r N false r') (e:r'.er=0) (hj:1<=j/\j<=9) (hx:j=6->Nx l 6 r'):Rl l j r N r':=by
 refine ⟨λhl n m r2 g=>?_,λhl=>?_⟩
 ·exact Gd.seq hl h g
 ·obtain ⟨f1,f2,f3⟩:=DE h _ rfl e;have:j=5\/j=6\/j=9:=by unfold lpB at hl;omega
  rcases this with rfl | rfl | rfl
  ·have f2:=f2 aS;refine .cmp0 (λw op hw=>f2 w ?_) (f2 _ aS) h;have:∀ p∈LN,p.1∈cB9:=aS
   exact this _ hw
  ·exact .cm0 h λi h1 h2=>hx Z _ (cA2 h1 h2) (aY _)
  ·exact .pri (f3 Z) h
theorem Rl.go:∀ {d j:Nat},Rl l (j+d) r N r'->r'.er=0->1<=j->j+d<=10->Nx l (j+1) r'->(j<=6->Nx l 6 r')->Rl l j r N r'
 | 0,_,h,_,_,_,_,_=>h
 | d+1,j,h,e,h1,hb,hx,h6=>by
  have k:=Rl.go (j:=j+1) (d:=d) (by rw [show j+1+d=j+(d+1) by omega];exact h) e aD aD (hx.up aD) (λhj=>h6 aD);exact .dn (k.full hx) e ⟨h1,aD⟩ (λe=>h6 aD)
theorem Rl.to (h:Rl l b r N r') (e:r'.er=0) (h1:1<=j) (hj:j<=b) (hb:b<=10) (hx:Nx l (j+1) r') (h6:j<=6->Nx l 6 r'):Rl l j r N r':=by
 obtain ⟨d,rfl⟩:∃ d,b=j+d:=⟨b - j,aD⟩;exact h.go e h1 hb hx h6
theorem Rl.at (h:Rl l b r N r') (e:r'.er=0) (h1:1<=j) (hj:j<=b) (hb:b<=10) (hx:Nx l j r'):Gd l (.lev j) r N false r':=(h.to e h1 hj hb (hx.up aD) (λk=>hx.up k)).full hx
theorem bD4 {ks:List Kt} (h:Sps l r ((4,[40])::(ks++[(4,[41])])) r') (hg:∀ m,Sps l r.nx ks m->Nx l 1 m->Gd l (.lev 1) r.nx N false m):Rl l 10 r N r':=by
 obtain ⟨t0,h⟩:=h;obtain ⟨m,h1,t1,e,rfl⟩:=nV h;have g:=Gd.par (wL t0 (.inr Z)) (hg m h1 (.tok t1 aS));have e1:m.exS l [41]=m.nx:=IM t1 (.inr Z);rw [e1] at g;exact .of10 g
end
section
variable {l:Tks} {r r' ra m:Rq} {w w':Str} {i j:Nat}
def ndE (e:Ex):Fn:=if e.op=5 then (match eN e.nm with | some (a,b)=>⟨true,true,.mk 4 a b 0 0 [] [],e⟩ | none=>vlN e) else vlN e
theorem vG (e:Ex):(ndE e).e=e/\(ndE e).tm=true:=by
 unfold ndE
 split
 ·cases eN e.nm <;> exact ⟨Z,Z⟩
 ·exact ⟨Z,Z⟩
theorem cH2 {op:UInt8} {nm:Str} {n:Int64} {args:List Ex} (h:¬ op=5):ndE (.mk op nm n args)=vlN (.mk op nm n args):=aA h
def Td (l:Tks) (e:Ex):Prop:=∀ r r',Sps l r (tqT e) r'->Nx l (tlv e.op+4) r'->Rl l (tlv e.op+3) r (ndE e) r'
theorem xV (op:UInt8):4<=tlv op:=by
 unfold tlv
 split
 ·omega
 split
 ·omega
 split <;> omega
theorem UB {a:Ex} (h:Td l a) {b:Bool} (hj:7<=j/\j<=9) (hb:b=false->j<=tlv a.op+3) (s:Sps l r (prQ b (tqT a)) r') (hx:Nx l (j+1) r'):Rl l j r (ndE a) r':=by
 have e:=(sJ s).2;have h1:=xV a.op;have h2:=JF a.op;cases b with
 | true =>
  have:=bD4 (N:=ndE a) (show Sps l r ((4,[40])::(tqT a++[(4,[41])])) r' from s) λm sm hm=>(h _ _ sm (hm.up aD)).at (sJ sm).2 (aY _) aD aD hm;exact this.to e aD aD (aY _) hx (λk=>by omega)
 | false =>
  have:=hb rfl;exact (h _ _ s (hx.up aD)).to e aD this aD hx (λk=>by omega)
theorem QP {p q:Prop} [Decidable p] (h:¬ p->q) (e:decide p=false):q:=h (aJ e)
theorem aD9 {a b:Str} (t0:r.er=0/\kt (tkf l r.i)=(1,a)) (t2:r.nx.nx.er=0/\kt (tkf l r.nx.nx.i)=(1,b)):r.ful l=a++([46]:Str)++b:=by
 unfold Rq.ful;rw [LK t0,DZ t0,DZ t2]
theorem cN8 {nm:Str} (s:Sps l r (tqN nm) r') (hx:Nx l 11 r'):Gd l (.lev 10) r (ndE (.mk 5 nm 0 [])) false r':=by
 unfold tqN at s;unfold ndE;rw [aK (show (Ex.mk 5 nm 0 []).op=5 from rfl)];show Gd l (.lev 10) r (match eN nm with | some (a,b)=>⟨true,true,.mk 4 a b 0 0 [] [],.mk 5 nm 0 []⟩ | none=>vlN (.mk 5 nm 0 [])) false r';cases hs:eN nm with
 | none =>
  rw [hs] at s;obtain ⟨t0,e,rfl⟩:=s;have g:=Gd.nam0 t0.1 (QL t0.2) (hx.dot aD);rw [DZ t0] at g;exact g
 | some x =>
  obtain ⟨a,b⟩:=x;rw [hs] at s;obtain ⟨t0,t1,t2,e,rfl⟩:=s;have e2:r.nx.nx.nmS l=r.nx.nx.nx:=LK t2;have g:=Gd.nam1 t0.1 (QL t0.2) (wL t1 (.inr Z)) (by rw [e2];exact hx.brk aD);rw [e2,DZ t0,DZ t2,aD9 t0 t2,<-tY hs] at g;exact g
theorem bD6 {a b:Str} (t0:r.er=0/\kt (tkf l r.i)=(1,a)) (t1:r.nx.er=0/\kt (tkf l r.nx.i)=(4,[46])) (t2:r.nx.nx.er=0/\kt (tkf l r.nx.nx.i)=(1,b)):r.paS l=r.nx.nx.nx/\r.paN l=a/\r.paF l=b:=by
 unfold Rq.paS Rq.paN Rq.paF;rw [LK t0,DZ t0,IM t1 (.inr Z),LK t2,DZ t2];exact ⟨Z,Z,Z⟩
theorem aA9 (e:Ex):eI e=true->oT e=false->Td l e:=by
 induction e using Ex.ind with
 | _ op nm n args ih =>
  intro h hm r r' s hx;obtain ⟨m1,m2,m3⟩:=GM hm;rw [aY8] at s;rcases NJ h with ⟨rfl,rfl,hn,rfl⟩ | ⟨rfl,rfl,rfl,rfl⟩ | ⟨ho,rfl,rfl⟩ | ⟨rfl,rfl,a,rfl,ha⟩ | ⟨rfl,rfl,rfl,a,rfl,ha⟩ | ⟨ho,rfl,rfl,a,b,rfl,ha,hb⟩
  ·obtain ⟨t0,e,rfl⟩:=s;have g:=Gd.num t0.1 (QL t0.2);have h1:=bO4 t0 hn;rw [h1.1,h1.2] at g;exact .of10 g
  ·obtain ⟨t0,e,rfl⟩:=s;exact .of10 (Gd.now (wL t0 (.inl Z)))
  ·rcases ho with rfl | rfl
   ·exact .of10 (cN8 s hx)
   ·have hS:=m2 (.inr Z);obtain ⟨t0,s⟩:=(show Sps l r ((2,[115,105,122,101])::tqN nm) r' from s);unfold tqN at s;cases hs:eN nm with
    | none=>rw [hs] at hS;cases hS
    | some x =>
     obtain ⟨a,b⟩:=x;rw [hs] at s;obtain ⟨t1,t2,t3,e,rfl⟩:=s;have g:=Gd.siz (wL t0 (.inl Z));obtain ⟨p1,p2,p3⟩:=bD6 t1 t2 t3;rw [p1,p2,p3] at g;have e3:=tY hs;rw [<-e3] at g;exact .of10 g
  ·have hS:=m2 (.inl Z);obtain ⟨m,s0,s⟩:=nV (show Sps l r (tqN nm++((4,[91])::(tqT a++[(4,[93])]))) r' from s);obtain ⟨t3,s⟩:=s;obtain ⟨m',s1,t4,e,rfl⟩:=nV s;unfold tqN at s0;cases hs:eN nm with
   | none=>rw [hs] at hS;cases hS
   | some x =>
    obtain ⟨p,q⟩:=x;rw [hs] at s0;obtain ⟨t0,t1,t2,e0,rfl⟩:=s0;have e2:r.nx.nx.nmS l=r.nx.nx.nx:=LK t2;have hx7:Nx l 7 m':=.tok t4 aS;have g1:=(ih a fG ha (m3 a fG) _ _ s1 (hx7.up (by have:=xV a.op;omega))).at (sJ s1).2 aD (show 7<=tlv a.op+3 by have:=xV a.op;omega) (by have:=JF a.op;omega) hx7;have g:=Gd.get t0.1 (QL t0.2) (wL t1 (.inr Z)) (by rw [e2];exact wL t3 (.inr Z)) (by rw [e2];exact g1);rw [aD9 t0 t2,(vG a).1,(vG a).2,IM t4 (.inr Z)] at g;rw [<-tY hs] at g;exact .of10 g
  ·obtain ⟨t0,s⟩:=(show Sps l r ((4,[45])::prQ (decide (tlv a.op<6)) (tqT a)) r' from s);have g1:=(UB (j:=9) (ih a fG ha (m3 a fG)) aS (QP aD) s hx).full (Nx.n9 hx);have g:=Gd.neg (wL t0 (.inr Z)) g1;rw [(vG a).1,(vG a).2] at g;exact ⟨λe=>absurd (show lpB 9 from e) (by unfold lpB;decide),λ_=>g⟩
  ·have ho2:op=11\/op=12\/op=13\/op=14\/op=15:=by simpa using ho
   have e1:tqO op [] 0 ([a,b].map λe=>(e.op,tqT e))=prQ (decide (tlv a.op<tlv op)) (tqT a)++(4,vK op)::prQ (decide (tlv b.op<tlv op+1)) (tqT b):=by
    rcases ho2 with rfl | rfl | rfl | rfl | rfl <;> rfl
   rw [e1] at s;obtain ⟨ra,sa,t0,sb⟩:=nV s;have hlv:tlv op=4\/tlv op=5:=by rcases ho2 with rfl | rfl | rfl | rfl | rfl <;> decide
   have hxa:Nx l (tlv op+3+1) ra:=.tok t0 (by rcases ho2 with rfl | rfl | rfl | rfl | rfl <;> decide);have A:=UB (j:=tlv op+3) (ih a fG ha (m3 a fG)) aD (QP aD) sa hxa;have B:=(UB (j:=tlv op+3+1) (ih b fG hb (m3 b fG)) aD (QP aD) sb (hx.up (Nat.le_succ _))).full hx;have hl:lpB (tlv op+3):=by unfold lpB;omega
   have hk:KE (tlv op+3) op.toNat:=by unfold KE;rcases ho2 with rfl | rfl | rfl | rfl | rfl <;> decide
   refine ⟨λ_ n m r2 g=>?_,λe=>absurd hl e⟩;have hy:ra.ac l (nE.getD op.toNat [])=true:=wL t0 (.inr Z)
   have g':Gd l (.lp (tlv op+3) (vlN (opB op.toNat [(ndE a).e,(ndE b).e]))) r' n m r2:=by
    rw [(vG a).1,(vG b).1];unfold opB;rw [fU];rw [cH2 (by rcases ho2 with rfl | rfl | rfl | rfl | rfl <;> decide)] at g;exact g
   have G:=Gd.ari hk hy B g';rw [(vG a).2,(vG b).2] at G;exact A.1 hl _ _ _ G
end
theorem LV:∀ op∈([1,2,8,9,10,11,12,13,14,15,16,17,18]:List UInt8),iQ op∈words:=by decide +kernel
theorem cG1 {o:UInt8} (h:o∈([16,17,18,19,20,21]:List UInt8)):o∈([11,12,13,14,15,16,17,18,19,20,21]:List UInt8):=by
 simp only [bM,List.not_mem_nil,or_false] at h;rcases h with rfl | rfl | rfl | rfl | rfl | rfl <;> decide
variable {ks:List Kt}
theorem bF5 {op:UInt8} {b:Int64} {g:List Fm} (hw:bnW a b) (hr:AE r) (hk:Lx r ks) :
 Lx (wF (.mk op [] [] a b [] g)++r) (CN (.mk op [] [] a b [] g)++ks)/\AE (wF (.mk op [] [] a b [] g)++r):=by
 unfold wF CN
 split
 ·exact ⟨hk,hr⟩
 ·rename_i h;simp only [aW,aB,vR,Fm.b] at h
  have hab:0<=a.toInt/\0<=b.toInt:=by
   rcases hw with ⟨rfl,rfl⟩ | hw
   ·exact absurd (aG aS) h.2
   ·omega
  simp only [aV,bY,dE,Fm.a,Fm.b];obtain ⟨k1,_⟩:=OG (n:=b) hab.2 (r:=93::r) (k:=(4,[93])::ks) (HS aG1) (.sy aS hr.hd hk);obtain ⟨k2,k3⟩:=OG (n:=a) hab.1 (r:=44::32::(Lib.itoa b.toInt++93::r)) (HS (vL aS)) (.sy (c:=44) aS oS.hd (.sp k1));exact ⟨.sy aS k3 k2,aF9⟩
theorem bG0 {op:UInt8} {nm:Str} {b:Int64} {ex:List Ex} {g:List Fm} (hn:gL nm=true) (hr:AE r) (hk:Lx r ks) :
 Lx (DX (.mk op nm [] a b ex g)++r) (LP (.mk op nm [] a b ex g)++ks)/\AE (DX (.mk op nm [] a b ex g)++r):=by
 unfold DX LP;simp only [aV,bY,dE,Fm.a,Fm.b,Fm.nm];obtain ⟨k1,_⟩:=bF7 (n:=b) (HS hr) hk;have k2:Lx (46::46::(Lib.itoa b.toInt++r)) ((4,[46,46])::(aD5 b.toInt++ks)):=.tok (x:=(4,[46,46])) cE4 k1;obtain ⟨k3,_⟩:=bF7 (n:=a) (λd e=>by cases e;decide) k2;exact ⟨.sp (.nm hn oS (.sp (.kw (w:=[105,110]) aS oS (.sp k3)))),oS⟩
theorem bF9 (hk:Lx r ks):Lx (tmT zE++r) (tqT zE++ks)/\hdB (tmT zE++r):=⟨.tok (x:=(4,[95])) cE2 hk,yL aS⟩
theorem bF8:∀ {l:List Ex},(∀ x∈l,(x=zE\/eI x=true)/\oT x=false)->∀ {r:Str} {ks:List Kt},AE r->Lx r ks->Lx (qM [44,32] (l.map tmT)++r) (GO (l.map tqT)++ks)/\hdB (qM [44,32] (l.map tmT)++r)
 | [],_,r,ks,hr,hk=>⟨hk,hr.hd⟩
 | [x],h,r,ks,hr,hk=>by
  obtain ⟨h1,h2⟩:=h x fG;rcases h1 with rfl | h1
  ·exact bF9 hk
  ·exact XS x h1 h2 r ks hr hk
 | x::y::l,h,r,ks,hr,hk=>by
  obtain ⟨k1,_⟩:=bF8 (l:=y::l) (λz hz=>h z (cD _ hz)) hr hk;have k2:Lx (44::32::(qM [44,32] ((y::l).map tmT)++r)) ((4,[44])::(GO ((y::l).map tqT)++ks)):=.sy aS oS.hd (.sp k1)
  have e1:qM [44,32] ((x::y::l).map tmT)++r=tmT x++44::32::(qM [44,32] ((y::l).map tmT)++r):=by
   show (tmT x++[44,32]++qM [44,32] ((y::l).map tmT))++r=_;simp only [aV,bY,dE]
  have e2:GO ((x::y::l).map tqT)++ks=tqT x++(4,[44])::(GO ((y::l).map tqT)++ks):=by
   show (tqT x++(4,[44])::GO ((y::l).map tqT))++ks=_;simp only [aV,bY]
  rw [e1,e2];obtain ⟨h1,h2⟩:=h x fG;rcases h1 with rfl | h1
  ·exact bF9 k2
  ·exact XS x h1 h2 _ _ (vL aS) k2
theorem cN9 (f:Fm):Fm.all jJ f=true->Fm.all rN f=true->LxN (fmT f) (tqF f):=by
 induction f using Fm.ind with
 | _ op nm fd a b ex args ih =>
  intro hf hn r ks hr hk;obtain ⟨hf,hfs⟩:=wJ hf;rw [kF,aE,bD] at hn;obtain ⟨hn,hns⟩:=hn;obtain ⟨n1,n2,n3⟩:=ML hn;have ih':∀ g∈args,LxN (fmT g) (tqF g):=λg hg=>ih g hg (hfs g hg) (hns g hg);have hg:=IB hf;clear ih hfs hns hf hn;generalize e:Fm.mk op nm fd a b ex args=f at hg|-;cases hg with
  | @tf op' h =>
   cases e;rcases h with rfl | rfl
   ·exact ⟨Lx.kw (w:=[116,114,117,101]) aS hr hk,DB (w:=[116,114,117,101]) aS⟩
   ·exact ⟨Lx.kw (w:=[102,97,108,115,101]) aS hr hk,DB (w:=[102,97,108,115,101]) aS⟩
  | @cmp o x y h hx hy =>
   cases e;have hm:=n3 _ (bS.2 rfl);have m3:=(GM hm).2.2;obtain ⟨k1,_⟩:=XS y hy (m3 y fG) r ks hr hk;have k2:=bF6 (op:=o) (cG1 h) k1;obtain ⟨k3,k4⟩:=XS x hx (m3 x fG) _ _ oS k2
   have e1:fmT (.mk 3 [] [] 0 0 [.mk o [] 0 [x,y]] [])++r=tmT x++([32]++(vK o++([32]++(tmT y++r)))):=by
    rw [fx3 (args0:=[x,y]) rfl rfl fG fG];simp only [aV];rfl
   have e2:tqF (.mk 3 [] [] 0 0 [.mk o [] 0 [x,y]] [])++ks=tqT x++(4,vK o)::(tqT y++ks):=by
    rw [FM];show (tqT x++(4,vK o)::tqT y)++ks=_;simp only [aV,bY]
   rw [e1,e2];exact ⟨k3,k4⟩
  | var =>
   cases e;have e1:fmT (.mk 4 nm fd 0 0 [] [])++r=nm++46::(fd++r):=by rw [fx4 rfl];simp
   rw [e1];exact ⟨.nw (n1 rfl) (λc e=>by cases e;decide) (.sy aS (BM (n2 rfl)) (.nm (n2 rfl) hr hk)),BM (n1 rfl)⟩
  | @has nm' fd' x hx =>
   cases e;obtain ⟨k1,k2⟩:=XS x hx (n3 x fG) (93::r) ((4,[93])::ks) aG1 (.sy aS hr.hd hk)
   have e1:fmT (.mk 5 nm fd 0 0 [x] [])++r=[104,97,115]++32::(nm++46::(fd++91::(tmT x++93::r))):=by
    rw [fx5 rfl rfl];show ([104,97,115]++[32]++nm++[46]++fd++[91]++tmT x++[93]:Str)++r=_;simp only [aV,bY,dE]
   have e2:tqF (.mk 5 nm fd 0 0 [x] [])++ks=(2,[104,97,115])::(1,nm)::(4,[46])::(1,fd)::(4,[91])::(tqT x++(4,[93])::ks):=by
    rw [FM];show ((2,[104,97,115])::(1,nm)::(4,[46])::(1,fd)::(4,[91])::(tqT x++[(4,[93])]):List Kt)++ks=_;simp only [aV,bY,dE]
   rw [e1,e2];exact ⟨.kw aS oS (.sp (.nw (n1 rfl) (λc e=>by cases e;decide) (.sy aS (BM (n2 rfl)) (.nm (n2 rfl) aF9 (.sy aS k2 k1))))),DB aS⟩
  | flg =>
   cases e
   have e1:fmT (.mk 6 nm [] 0 0 [] [])++r=[102,108,97,103]++32::(nm++r):=by
    rw [fx6 rfl];show ([102,108,97,103]++[32]++nm:Str)++r=_;simp only [aV,bY,dE]
   rw [e1];exact ⟨.kw aS oS (.sp (.nm (n1 rfl) hr hk)),DB aS⟩
  | @arr nm' fd' ex' hl hx =>
   cases e;obtain ⟨k1,k2⟩:=bF8 (l:=ex) (λx h=>⟨hx x h,n3 x h⟩) (r:=41::r) (ks:=(4,[41])::ks) aF7 (.sy aS hr.hd hk)
   have e1:fmT (.mk 7 nm fd 0 0 ex [])++r=[97,114,114,105,118,101,115]++32::(nm++46::(fd++40::(qM [44,32] (ex.map tmT)++41::r))):=by
    rw [fx7 rfl];show ([97,114,114,105,118,101,115]++[32]++nm++[46]++fd++[40]++qM [44,32] (ex.map tmT)++[41]:Str)++r=_;simp only [aV,bY,dE]
   have e2:tqF (.mk 7 nm fd 0 0 ex [])++ks=(2,[97,114,114,105,118,101,115])::(1,nm)::(4,[46])::(1,fd)::(4,[40])::(GO (ex.map tqT)++(4,[41])::ks):=by
    rw [FM];show ((2,[97,114,114,105,118,101,115])::(1,nm)::(4,[46])::(1,fd)::(4,[40])::(GO (ex.map tqT)++[(4,[41])]):List Kt)++ks=_;simp only [aV,bY,dE]
   rw [e1,e2];exact ⟨.kw aS oS (.sp (.nw (n1 rfl) (λc e=>by cases e;decide) (.sy aS (BM (n2 rfl)) (.nm (n2 rfl) (vL aS) (.sy aS k2 k1))))),DB aS⟩
  | @un op' g h =>
   cases e;obtain ⟨k1,_⟩:=zS (ih' g fG) (decide ((cK g.op).lv<5)) r ks hr hk;have hw:iQ op∈words:=LV op (by rcases h with rfl | rfl <;> decide);have hq:wF (.mk op [] [] 0 0 [] [g])=[]/\CN (.mk op [] [] 0 0 [] [g])=[]:=by rcases h with rfl | rfl <;> exact ⟨Z,Z⟩
   have e1:fmT (.mk op [] [] 0 0 [] [g])++r=iQ op++32::(pfW 5 g++r):=by
    rw [fxu (by rcases h with rfl | rfl <;> simp) fG,hq.1];simp only [aV,bY,dE];rfl
   have e2:tqF (.mk op [] [] 0 0 [] [g])++ks=(2,iQ op)::(prQ (decide ((cK g.op).lv<5)) (tqF g)++ks):=by
    have:tqF (.mk op [] [] 0 0 [] [g])=(2,iQ op)::(CN (.mk op [] [] 0 0 [] [g])++prQ (decide ((cK g.op).lv<5)) (tqF g)):=by
     rw [FM];rcases h with rfl | rfl <;> rfl
    rw [this,hq.2];rfl
   rw [e1,e2];exact ⟨.kw hw oS (.sp k1),DB hw⟩
  | @win op' a' b' g h hwn =>
   cases e;obtain ⟨k1,_⟩:=zS (ih' g fG) (decide ((cK g.op).lv<5)) r ks hr hk;have hw:iQ op∈words:=LV op (by rcases h with rfl | rfl <;> decide);obtain ⟨k2,k3⟩:=bF5 (op:=op) (g:=[g]) hwn oS k1.sp
   have e1:fmT (.mk op [] [] a b [] [g])++r=iQ op++(wF (.mk op [] [] a b [] [g])++32::(pfW 5 g++r)):=by
    rw [fxu (by rcases h with rfl | rfl <;> simp) fG];simp only [aV,bY,dE];rfl
   have e2:tqF (.mk op [] [] a b [] [g])++ks=(2,iQ op)::(CN (.mk op [] [] a b [] [g])++(prQ (decide ((cK g.op).lv<5)) (tqF g)++ks)):=by
    have:tqF (.mk op [] [] a b [] [g])=(2,iQ op)::(CN (.mk op [] [] a b [] [g])++prQ (decide ((cK g.op).lv<5)) (tqF g)):=by
     rw [FM];rcases h with rfl | rfl <;> rfl
    rw [this];simp only [aV,bY]
   rw [e1,e2];exact ⟨.kw hw k3 k2,DB hw⟩
  | @amo op' nm' a' b' g h ha hb =>
   cases e;obtain ⟨k1,_⟩:=zS (ih' g fG) (decide ((cK g.op).lv<5)) r ks hr hk;have hw:iQ op∈words:=LV op (by rcases h with rfl | rfl <;> decide);obtain ⟨k2,k3⟩:=bG0 (op:=op) (nm:=nm) (a:=a) (b:=b) (ex:=[]) (g:=[g]) (n1 (by rcases h with rfl | rfl <;> rfl)) oS k1.sp
   have e1:fmT (.mk op nm [] a b [] [g])++r=iQ op++(DX (.mk op nm [] a b [] [g])++32::(pfW 5 g++r)):=by
    rw [fxq (by rcases h with rfl | rfl <;> simp) fG];simp only [aV,bY,dE];rfl
   have e2:tqF (.mk op nm [] a b [] [g])++ks=(2,iQ op)::(LP (.mk op nm [] a b [] [g])++(prQ (decide ((cK g.op).lv<5)) (tqF g)++ks)):=by
    have:tqF (.mk op nm [] a b [] [g])=(2,iQ op)::(LP (.mk op nm [] a b [] [g])++prQ (decide ((cK g.op).lv<5)) (tqF g)):=by
     rw [FM];rcases h with rfl | rfl <;> rfl
    rw [this];simp only [aV,bY]
   rw [e1,e2];exact ⟨.kw hw k3 k2,DB hw⟩
  | @cnt nm' a' b' n g ha hb hn0 =>
   cases e;obtain ⟨k1,_⟩:=OG (n:=n) hn0 (HS hr) hk;have k2:Lx (62::61::32::(Lib.itoa n.toInt++r)) ((4,[62,61])::(3,Lib.itoa n.toInt)::ks):=.tok (x:=(4,[62,61])) (aJ3 aS) (.sp k1);have k3:Lx (41::32::62::61::32::(Lib.itoa n.toInt++r)) ((4,[41])::(4,[62,61])::(3,Lib.itoa n.toInt)::ks):=.sy aS oS.hd (.sp k2);obtain ⟨k4,k5⟩:=ih' g fG _ _ aF7 k3;have k6:=Lx.sy (c:=40) aS k5 k4;obtain ⟨k7,k8⟩:=bG0 (op:=18) (nm:=nm) (a:=a) (b:=b) (ex:=[.mk 1 [] n []]) (g:=[g]) (n1 rfl) oS k6.sp
   have e1:fmT (.mk 18 nm [] a b [.mk 1 [] n []] [g])++r=[99,111,117,110,116]++(DX (.mk 18 nm [] a b [.mk 1 [] n []] [g])++32::40::(fmT g++41::32::62::61::32::(Lib.itoa n.toInt++r))):=by
    rw [bW6 rfl rfl fG];show ([99,111,117,110,116]++DX (.mk 18 nm [] a b [.mk 1 [] n []] [g])++[32,40]++fmT g++[41,32,62,61,32]++Lib.itoa n.toInt:Str)++r=_;simp only [aV,bY,dE]
   have e2:tqF (.mk 18 nm [] a b [.mk 1 [] n []] [g])++ks=(2,[99,111,117,110,116])::(LP (.mk 18 nm [] a b [.mk 1 [] n []] [g])++(4,[40])::(tqF g++(4,[41])::(4,[62,61])::(3,Lib.itoa n.toInt)::ks)):=by
    rw [FM];show ((2,[99,111,117,110,116])::(LP (.mk 18 nm [] a b [.mk 1 [] n []] [g])++(4,[40])::(tqF g++(4,[41])::(4,[62,61])::[(3,Lib.itoa n.toInt)])):List Kt)++ks=_;simp only [aV,bY,dE]
   rw [e1,e2];exact ⟨.kw aS k8 k7,DB aS⟩
  | @bin op' g h ho =>
   cases e;obtain ⟨k1,_⟩:=zS (ih' h fG) (decide ((cK h.op).lv<(cK op).lv+1)) r ks hr hk;have hw:iQ op∈words:=LV op (by rcases ho with rfl | rfl | rfl <;> decide);have k2:Lx (32::(iQ op++32::(pfW ((cK op).lv+1) h++r))) ((2,iQ op)::(prQ (decide ((cK h.op).lv<(cK op).lv+1)) (tqF h)++ks)):=.sp (.kw hw oS (.sp k1));obtain ⟨k3,k4⟩:=zS (ih' g fG) (decide ((cK g.op).lv<(cK op).lv)) _ _ oS k2;have hq:wF (.mk op [] [] 0 0 [] [g,h])=[]/\CN (.mk op [] [] 0 0 [] [g,h])=[]:=by rcases ho with rfl | rfl | rfl <;> exact ⟨Z,Z⟩
   have e1:fmT (.mk op [] [] 0 0 [] [g,h])++r=pfW (cK op).lv g++32::(iQ op++32::(pfW ((cK op).lv+1) h++r)):=by
    rw [fxb (by rcases ho with rfl | rfl | rfl <;> simp) fG fG,hq.1];simp only [aV,bY,dE];rfl
   have e2:tqF (.mk op [] [] 0 0 [] [g,h])++ks=prQ (decide ((cK g.op).lv<(cK op).lv)) (tqF g)++(2,iQ op)::(prQ (decide ((cK h.op).lv<(cK op).lv+1)) (tqF h)++ks):=by
    have:tqF (.mk op [] [] 0 0 [] [g,h])=prQ (decide ((cK g.op).lv<(cK op).lv)) (tqF g)++(2,iQ op)::(CN (.mk op [] [] 0 0 [] [g,h])++prQ (decide ((cK h.op).lv<(cK op).lv+1)) (tqF h)):=by
     rw [FM];rcases ho with rfl | rfl | rfl <;> rfl
    rw [this,hq.2];simp only [aV,bY,dE]
   rw [e1,e2];exact ⟨k3,k4⟩
  | @snc a' b' g h hwn =>
   cases e;obtain ⟨k1,_⟩:=zS (ih' h fG) (decide ((cK h.op).lv<5)) r ks hr hk;obtain ⟨k2,k3⟩:=bF5 (op:=15) (g:=[g,h]) hwn oS k1.sp;have k4:Lx (32::([115,105,110,99,101]++(wF (.mk 15 [] [] a b [] [g,h])++32::(pfW 5 h++r)))) ((2,[115,105,110,99,101])::(CN (.mk 15 [] [] a b [] [g,h])++(prQ (decide ((cK h.op).lv<5)) (tqF h)++ks))):=.sp (.kw aS k3 k2);obtain ⟨k5,k6⟩:=zS (ih' g fG) (decide ((cK g.op).lv<4)) _ _ oS k4
   have e1:fmT (.mk 15 [] [] a b [] [g,h])++r=pfW 4 g++32::([115,105,110,99,101]++(wF (.mk 15 [] [] a b [] [g,h])++32::(pfW 5 h++r))):=by
    rw [fxb (.inl Z) fG fG];show (pfW 4 g++[32]++[115,105,110,99,101]++wF (.mk 15 [] [] a b [] [g,h])++[32]++pfW 5 h:Str)++r=_;simp only [aV,bY,dE]
   have e2:tqF (.mk 15 [] [] a b [] [g,h])++ks=prQ (decide ((cK g.op).lv<4)) (tqF g)++(2,[115,105,110,99,101])::(CN (.mk 15 [] [] a b [] [g,h])++(prQ (decide ((cK h.op).lv<5)) (tqF h)++ks)):=by
    rw [FM];show (prQ (decide ((cK g.op).lv<4)) (tqF g)++(2,[115,105,110,99,101])::(CN (.mk 15 [] [] a b [] [g,h])++prQ (decide ((cK h.op).lv<5)) (tqF h)):List Kt)++ks=_;simp only [aV,bY]
   rw [e1,e2];exact ⟨k5,k6⟩
def Fex (q:Ps):Prop:=∀ o∈q.op,o.f.ex.length<=q.c.i
section
variable {l:Tks} {q:Ps} {c:Rq} {o:Ov} {v:Vl}
theorem nZ (h:Fex q) (hi:q.c.i<=c.i) (ho:o.f.ex=[]):Fex (gD o (q.at c)):=λz hz=>by
 rcases bM.1 hz with rfl | hz
 ·rw [cC6,ho];exact aN _
 ·exact aZ (h z hz) hi
theorem sP (h:Fex q) (hi:q.c.i<=c.i):Fex (iU v (q.at c)):=λz hz=>aZ (h z hz) hi
theorem JT (h:Fex q) (hi:q.c.i<=c.i):Fex (q.at c):=λz hz=>aZ (h z hz) hi
theorem NX {lv:Nat}:∀ (r:List Ov) (x:Vb),∀ z∈(yB lv r x).1,z∈r
 | [],_,z,h=>h
 | o::r,x,z,h=>by
  rw [yB] at h
  split at h
  ·exact cD _ (NX r _ z h)
  ·exact h
theorem BO {lv:Nat} (h:Fex q):Fex (kD lv q):=λz hz=>h z (NX q.op q.x z hz)
theorem IC {x:Vb} (h:Fex q) (hi:q.c.i<=c.i):Fex (II c v x q):=λz hz=>aZ (h z (List.mem_of_mem_tail hz)) hi
theorem jZ {c:Prop} [Decidable c] {a b:Ps} (h1:c->Fex a) (h2:¬ c->Fex b):Fex (if c then a else b):=by
 by_cases hc:c
 ·rw [aK hc];exact h1 hc
 ·rw [aA hc];exact h2 hc
theorem xA (k:Mq q.c.nx c):q.c.i<=c.i:=aZ (Nat.le_succ _) k.i
theorem bJ3 {q':Ps} (h:Fex q) (e:nN l q=some q'):Fex q':=by
 unfold nN at e
 split at e
 ·injection e with e;subst e;exact nZ h (xA (.refl _)) rfl
 split at e
 ·injection e with e;subst e;exact nZ h (xA (.refl _)) rfl
 split at e
 ·injection e with e;subst e;exact nZ h (xA .wiS) rfl
 split at e
 ·injection e with e;subst e;exact nZ h (xA .wiS) rfl
 split at e
 ·injection e with e;subst e;exact nZ h (xA .amS) rfl
 split at e
 ·injection e with e;subst e;exact nZ h (xA .amS) rfl
 split at e
 ·injection e with e;subst e;exact nZ h (xA (.trans .amS .exS)) rfl
 ·cases e
theorem bH1:q.c.i<=(q.c.nmS l).i:=Mq.nmS.i
theorem bX6 (h:Fex q):Fex (xD l q):=by
 unfold xD;refine jZ (λa=>jZ (λb=>nZ h ?_ rfl) λ_=>sP h ?_) λ_=>sP h bH1
 ·exact aZ bH1 (aZ (Nat.le_succ _) (aZ (Mq.nmS (q:=(q.c.nmS l).nx)).i (Nat.le_succ _)))
 ·exact aZ bH1 (aZ (Nat.le_succ _) (Mq.nmS (q:=(q.c.nmS l).nx)).i)
theorem bY2 (h:Fex q):Fex (AP l q):=by
 unfold AP;have h2:q.c.i<=((q.c.paS l).exS l [40]).i:=(Mq.trans (a:=q.c) .paS .exS).i;exact jZ (λ_=>sP h (aZ h2 (Nat.le_succ _))) λ_=>nZ h h2 rfl
theorem bX8 (h:Fex q):Fex (rQ l q):=by
 unfold rQ
 exact jZ (λ_=>nZ h (xA (.refl _)) rfl) λ_=>jZ (λ_=>nZ h (xA (.refl _)) rfl) λ_ =>
  jZ (λ_=>sP h Mq.nbS.i) λ_=>jZ (λ_=>bX6 h) λ_=>jZ (λ_=>sP h (xA (.refl _))) λ_ =>
  jZ (λ_=>sP h (xA .paS)) λ_=>jZ (λ_=>sP h (xA (.refl _))) λ_=>jZ (λ_=>sP h (xA (.refl _))) λ_ =>
  jZ (λ_=>sP h (xA .nmS)) λ_=>jZ (λ_=>nZ h (xA (.trans .paS .exS)) rfl) λ_ =>
  jZ (λ_=>bY2 (JT h (Nat.le_succ _))) λ_=>JT h Mq.fail.i
theorem YO (h:Fex q):Fex (eQ l q):=by
 unfold eQ;cases e:(if zT q then nN l q else none) with
 | some q' =>
  split at e
  ·exact bJ3 h e
  ·cases e
 | none =>
  show Fex (yA l q);unfold yA;exact jZ (λ_=>sP h (Nat.le_succ _)) λ_=>bX8 h
theorem bY1 {op:UInt8} (h:Fex q):Fex (sL l op q):=by
 have f {lv:Nat}:Fex ((kD lv q).at (q.c.fail l 8)):=JT (BO h) (Mq.fail (q:=q.c)).i;have p {lv:Nat} {o:Ov} (ho:o.f.ex=[]):Fex (gD o ((kD lv q).at q.c.nx)):=nZ (BO h) (Nat.le_succ _) ho;unfold sL;exact jZ (λ_=>jZ (λ_=>f) λ_=>p rfl) λ_=>jZ (λ_=>jZ (λ_=>f) λ_=>p rfl) λ_=>jZ (λ_=>f) λ_=>p rfl
theorem cH8 (c:Rq):(c.joV l).ex=[]:=by
 unfold Rq.joV
 split
 ·rfl
 split
 ·rfl
 split
 ·rfl
 split <;> rfl
theorem bX9 (h:Fex q):Fex (yJ l q):=by
 unfold yJ;exact jZ (λ_=>JT h Mq.fail.i) λ_=>nZ (q:=kD _ q) (c:=q.c.joS l) (BO h) (Mq.joS (q:=q.c)).i (cH8 _)
theorem bY0 (h:Fex q):Fex (nG l q):=by
 unfold nG;refine jZ (λ_=>h) λ_=>jZ (λ_=>IC h (Nat.le_succ _)) λ_=>jZ (λ_=>IC h (xA (.trans .exS .nbS))) λ_=>jZ (λ_=>jZ (λ_=>IC h (Nat.le_succ _)) λ_=>IC h (Nat.le_succ _)) λ_=>jZ (λa=>?_) λ_=>jZ (λ_=>IC h (Nat.le_succ _)) λ_=>JT h Mq.fail.i;intro z hz;have hz':z∈(⟨(eC q).kd,(eC q).lv,(eC q).tm,(eC q).op,(eC q).f.wEx ((eC q).f.ex++[tE q.x])⟩:Ov)::q.op.tail:=hz;show z.f.ex.length<=q.c.i+1;rcases bM.1 hz' with e | hz
 ·subst e;show ((eC q).f.ex++[tE q.x]).length<=_;rw [aC]
  have:(eC q).f.ex.length<=q.c.i:=by
   unfold eC;cases hq:q.op with
   | nil=>exact aN _
   | cons o r=>exact h o (by rw [hq];exact bH ..)
  simp only [aF,aH];omega
 ·exact aZ (h z (List.mem_of_mem_tail hz)) (Nat.le_succ _)
theorem bJ2 (h:Fex q):Fex (lS l q):=by
 unfold lS;refine jZ (λ_=>?_) λ_=>YO h;unfold gB;cases q.c.sym l with
 | some i=>exact bY1 h
 | none =>
  show Fex (rS l q);unfold rS;exact jZ (λ_=>bX9 h) λ_=>jZ (λ_=>bY0 (BO h)) λ_=>JT h Mq.fail.i
end
theorem SA (q:UInt8->Bool) (c:UInt8) (r:Str):pre q (c::r)=if q c then pre q r+1 else 0:=by
 unfold pre;rw [fI]
 split <;> simp
theorem RZ (q:UInt8->Bool):∀ (m:Str),pre q (m.take (pre q m))=pre q m
 | []=>rfl
 | c::r=>by
  rw [SA];cases h:q c with
  | false=>rw [aA aS];rfl
  | true=>rw [aK rfl,List.take_succ_cons,SA,h,aK rfl,RZ q r]
theorem aC2 {m:Str} (h:m≠[]) (hk:(dD m).1=3):pre iZ (m.take (dD m).2)=(m.take (dD m).2).length:=by
 have key:(dD m).2=pre iZ m:=by
  match m,h with
  | c::r,_ =>
   cases h1:pO c with
   | true =>
    exfalso
    revert hk
    cases h4:words.contains ((c::r).take (pre kT (c::r))) with
    | true=>simp only [dD,bU,h1,h4,dC];decide
    | false =>
     by_cases h5:pre kT (c::r)<=12
     ·simp only [dD,bU,h1,h4,h5,dC,aM,cZ];decide
     ·simp only [dD,bU,h1,h4,h5,dC,aM,cZ];decide
   | false =>
    cases h4:iZ c with
    | true =>
     by_cases h5:pre iZ (c::r)=1\/c≠48
     ·simp only [dD,bU,h1,h4,h5,dC,aM,cZ]
     ·exfalso;revert hk;simp only [dD,bU,h1,h4,h5,dC,aM,cZ];decide
    | false =>
     exfalso
     revert hk
     cases hx:symbols.find? (λx=>x.isPrefixOf (c::r)) <;> simp only [dD,bU,h1,h4,hx,aM,cZ] <;> decide
 rw [key,RZ,dG,iK (uM iZ m)]
theorem RF:∀ (f o:Nat) (m:Str),∀ t∈CL f o m,t.k=3->pre iZ t.t=t.t.length
 | 0,_,_,t,h=>by cases h
 | f+1,o,m,t,h=>by
  by_cases h0:m=[]
  ·rw [h0,qJ] at h;cases h
  ·rw [nQ h0] at h;rcases bM.1 h with rfl | h
   ·exact λhk=>aC2 h0 hk
   ·exact RF f _ _ t h
theorem aR5 (s:Str):∀ t∈pL s,t.k=3->pre iZ t.t=t.t.length:=RF _ _ _
theorem KR:∀ (f o:Nat) (m:Str),∀ t∈CL f o m,t.t.length<=m.length
 | 0,_,_,t,h=>by cases h
 | f+1,o,m,t,h=>by
  by_cases h0:m=[]
  ·rw [h0,qJ] at h;cases h
  ·rw [nQ h0] at h;rcases bM.1 h with rfl | h
   ·show (m.take _).length<=_;rw [dG];omega
   ·have h1:=KR f _ _ t h;have h2:=pJ false (m.drop (dD m).2);rw [dA] at h2;omega
theorem LC (s:Str):∀ t∈pL s,t.t.length<=s.length:=λt h=>aZ (KR _ _ _ t h) (pJ false s)

theorem aQ1 {m:Str} (h:m≠[]) (hk:(dD m).1=1):(m.take (dD m).2).all kT=true:=by
 have key:(dD m).2=pre kT m:=by
  match m,h with
  | c::r,_ =>
   cases h1:pO c with
   | true =>
    revert hk
    cases h4:words.contains ((c::r).take (pre kT (c::r))) with
    | true=>simp only [dD,bU,h1,h4,dC];decide
    | false =>
     by_cases h5:pre kT (c::r)<=12
     ·simp only [dD,bU,h1,h4,h5,dC,aM,cZ];exact λ_=>trivial
     ·simp only [dD,bU,h1,h4,h5,dC,aM,cZ];intro h;exact absurd h aS
   | false =>
    exfalso
    revert hk
    cases h4:iZ c with
    | true =>
     by_cases h5:pre iZ (c::r)=1\/c≠48
     ·simp only [dD,bU,h1,h4,h5,dC,aM,cZ];decide
     ·simp only [dD,bU,h1,h4,h5,dC,aM,cZ];decide
    | false =>
     cases hx:symbols.find? (λx=>x.isPrefixOf (c::r)) <;> simp only [dD,bU,h1,h4,hx,aM,cZ] <;> decide
 rw [key];unfold pre
 have:m.take (m.takeWhile kT).length=m.takeWhile kT:=by
  have:=List.takeWhile_append_dropWhile (p:=kT) (l:=m)
  conv=>lhs;rw [<-this]
  rw [List.take_left' (by rw [this])]
 rw [this];exact List.all_takeWhile
theorem WQ:∀ (f o:Nat) (m:Str),∀ t∈CL f o m,t.k=1->t.t.all kT=true
 | 0,_,_,t,h=>by cases h
 | f+1,o,m,t,h=>by
  by_cases h0:m=[]
  ·rw [h0,qJ] at h;cases h
  ·rw [nQ h0] at h;rcases bM.1 h with rfl | h
   ·exact λhk=>aQ1 h0 hk
   ·exact WQ f _ _ t h
theorem bG8 (s:Str):∀ t∈pL s,t.k=1->t.t.all kT=true:=WQ _ _ _
def cK7 (s:Str):Tk:=⟨0,[],s.length⟩
def pX (s:Str):Tks:=pL s++[cK7 s]
theorem xW (s:Str):(pX s).length=(pL s).length+1:=by unfold pX;rw [aC];rfl
theorem RG (s:Str) (i:Nat):tkf (pX s) i∈pL s\/(tkf (pX s) i).k=0:=by
 unfold tkf pX;rw [List.getD_eq_getElem?_getD]
 by_cases h:i<(pL s).length
 ·rw [List.getElem?_append_left h,List.getElem?_eq_getElem h];exact .inl (aX h)
 ·rw [List.getElem?_append_right aD];cases e:i - (pL s).length with
  | zero=>exact .inr rfl
  | succ n=>exact .inr rfl
theorem aZ7 (s:Str):Tgd (pX s):=by
 refine ⟨λi hi hk=>?_,λi hk=>?_,λi hk=>?_⟩
 ·rw [xW] at hi|-;refine Classical.byContradiction λhn=>hk ?_;have e:i=(pL s).length:=aD
  unfold tkf pX;rw [List.getD_eq_getElem?_getD,List.getElem?_append_right aD,e,hZ];rfl
 ·rcases RG s i with h | h
  ·exact (SF s _ h).2.2
  ·rw [h] at hk;exact absurd hk aS
 ·rcases RG s i with h | h
  ·exact aD0 (bG8 s _ h hk)
  ·rw [h] at hk;exact absurd hk aS
/-! ### Lists that are not long -/
section
variable {N:Nat} {l:Tks} {q:Ps} {c:Rq} {o:Ov} {v:Vl} {x:Vb} {f:Fm}
def VbN (N:Nat) (x:Vb):Prop:=∀ v∈x.1,blE N v.e=true/\blF N v.f=true
structure Fbd (N:Nat) (q:Ps):Prop where
 x:VbN N q.x
 op:∀ o∈q.op,blF N o.f=true
theorem CI:blE N zE=true:=GV.2 ⟨aN _,λa h=>(by cases h)⟩
theorem kX {op:UInt8} {nm fd:Str} {a b:Int64}:blF N (.mk op nm fd a b [] [])=true:=yN.2 ⟨⟨aN _,aN _,λa h=>(by cases h)⟩,λa h=>(by cases h)⟩
theorem DV {op:UInt8} {nm:Str} {z:Int64} {es:List Ex} (h:es.length<=N) (k:∀ e∈es,blE N e=true):blE N (.mk op nm z es)=true:=GV.2 ⟨h,k⟩
theorem VP {gs:List Fm} (h:blF N f=true) (hl:gs.length<=N) (hg:∀ g∈gs,blF N g=true):blF N (f.wAr gs)=true:=by
 obtain ⟨op,nm,fd,a,b,ex,args⟩:=f;have:=yN.1 h;exact yN.2 ⟨⟨this.1.1,hl,this.1.2.2⟩,hg⟩
theorem MX {es:List Ex} (h:blF N f=true) (hl:es.length<=N) (hg:∀ g∈es,blE N g=true):blF N (f.wEx es)=true:=by
 obtain ⟨op,nm,fd,a,b,ex,args⟩:=f;have:=yN.1 h;exact yN.2 ⟨⟨hl,this.1.2.1,hg⟩,this.2⟩
theorem cL4 (h:blF N f=true):∀ e∈f.ex,blE N e=true:=by
 obtain ⟨op,nm,fd,a,b,ex,args⟩:=f;exact (yN.1 h).1.2.2
theorem LX (h:VbN N x):blE N (sH x).e=true/\blF N (sH x).f=true:=by
 unfold sH;cases e:x.1 with
 | nil=>exact ⟨CI,kX⟩
 | cons v r=>exact h v (by rw [e];exact bH ..)
theorem aA3 {b:Bool} (h:VbN N x):VbN N (x.1.tail,b):=λv hv=>h v (List.mem_of_mem_tail hv)
theorem xU (h:VbN N x):VbN N (tS x):=aA3 h
theorem NG (h:VbN N x):VbN N (fS x):=aA3 h
theorem GC (h:VbN N x):blE N (tE x)=true:=(LX h).1
theorem JC (h:VbN N x):blF N (fF x)=true:=by
 unfold fF Vl.fm
 split
 ·exact kX
 ·exact (LX h).2
theorem BD (h:VbN N x) (he:blE N v.e=true) (hf:blF N v.f=true):VbN N (x.put v):=λu hu=>by
 rcases bM.1 hu with rfl | hu
 ·exact ⟨he,hf⟩
 ·exact h u hu
theorem bl1 {e:Ex} (hN:2<=N) (h:blE N e=true):([e]:List Ex).length<=N/\∀ x∈[e],blE N x=true:=⟨by show 1<=N;omega,λx hx=>by rw [bS.1 hx];exact h⟩
theorem bl2 {e g:Ex} (hN:2<=N) (h:blE N e=true) (k:blE N g=true):([e,g]:List Ex).length<=N/\∀ x∈[e,g],blE N x=true:=⟨hN,λx hx=>by
 rcases bM.1 hx with rfl | hx
 ·exact h
 ·rw [bS.1 hx];exact k⟩
theorem bf1 {e:Fm} (hN:2<=N) (h:blF N e=true):([e]:List Fm).length<=N/\∀ x∈[e],blF N x=true:=⟨by show 1<=N;omega,λx hx=>by rw [bS.1 hx];exact h⟩
theorem bf2 {e g:Fm} (hN:2<=N) (h:blF N e=true) (k:blF N g=true):([e,g]:List Fm).length<=N/\∀ x∈[e,g],blF N x=true:=⟨hN,λx hx=>by
 rcases bM.1 hx with rfl | hx
 ·exact h
 ·rw [bS.1 hx];exact k⟩
theorem aY6 (hN:2<=N) (h:VbN N x) (ho:blF N o.f=true):VbN N (wT o x):=by
 unfold wT
 split
 ·have:=bl1 hN (GC h);exact BD (xU h) (DV this.1 this.2) kX
 split
 ·have:=bl2 hN (GC (xU h)) (GC h);exact BD (xU (xU h)) (DV this.1 this.2) kX
 split
 ·have:=bl2 hN (GC (xU h)) (GC h);have k:=bl1 hN (DV (op:=o.op) (nm:=[]) (z:=0) this.1 this.2);exact BD (xU (xU h)) CI (yN.2 ⟨⟨k.1,aN _,k.2⟩,λa h=>(by cases h)⟩)
 split
 ·have:=bf1 hN (JC h);exact BD (NG h) CI (VP ho this.1 this.2)
 split
 ·have:=bf2 hN (JC (NG h)) (JC h);exact BD (NG (NG h)) CI (VP ho this.1 this.2)
 ·exact h
theorem aK1 (hN:2<=N) {lv:Nat}:∀ (r:List Ov) (x:Vb),(∀ o∈r,blF N o.f=true)->VbN N x->VbN N (yB lv r x).2
 | [],x,_,h=>h
 | o::r,x,ho,h=>by
  rw [yB]
  split
  ·exact aK1 hN r _ (λz hz=>ho z (cD _ hz)) (aY6 hN h (ho o (bH ..)))
  ·exact h
theorem MW (hN:2<=N) {lv:Nat} (h:Fbd N q):Fbd N (kD lv q):=⟨aK1 hN q.op q.x h.op h.x,λo ho=>h.op o (NX q.op q.x o ho)⟩
theorem oD (h:Fbd N q) (ho:blF N o.f=true):Fbd N (gD o (q.at c)):=⟨h.x,λz hz=>by
 rcases bM.1 hz with rfl | hz
 ·rw [cC6];exact ho
 ·exact h.op z hz⟩
theorem sQ (h:Fbd N q) (he:blE N v.e=true) (hf:blF N v.f=true):Fbd N (iU v (q.at c)):=⟨BD h.x he hf,h.op⟩
theorem JV (h:Fbd N q):Fbd N (q.at c):=⟨h.x,h.op⟩
theorem ID (h:Fbd N q) (hx:VbN N x) (he:blE N v.e=true) (hf:blF N v.f=true):Fbd N (II c v x q):=⟨BD hx he hf,λo ho=>h.op o (List.mem_of_mem_tail ho)⟩
theorem kA {c:Prop} [Decidable c] {a b:Ps} (h1:c->Fbd N a) (h2:¬ c->Fbd N b):Fbd N (if c then a else b):=by
 by_cases hc:c
 ·rw [aK hc];exact h1 hc
 ·rw [aA hc];exact h2 hc
theorem bK1 {q':Ps} (h:Fbd N q) (e:nN l q=some q'):Fbd N q':=by
 unfold nN at e
 split at e
 ·injection e with e;subst e;exact oD h kX
 split at e
 ·injection e with e;subst e;exact oD h kX
 split at e
 ·injection e with e;subst e;exact oD h kX
 split at e
 ·injection e with e;subst e;exact oD h kX
 split at e
 ·injection e with e;subst e;exact oD h kX
 split at e
 ·injection e with e;subst e;exact oD h kX
 split at e
 ·injection e with e;subst e;exact oD h kX
 ·cases e
theorem aT4 {op:UInt8} {nm:Str} {z:Int64}:blE N (.mk op nm z [])=true:=DV (aN _) λa h=>(by cases h)
theorem bY5 (h:Fbd N q):Fbd N (xD l q):=by
 unfold xD;exact kA (λ_=>kA (λ_=>oD h kX) λ_=>sQ h aT4 kX) λ_=>sQ h aT4 kX
theorem bZ1 (h:Fbd N q):Fbd N (AP l q):=by
 unfold AP;exact kA (λ_=>sQ h CI kX) λ_=>oD h kX
theorem bY6 (h:Fbd N q):Fbd N (rQ l q):=by
 unfold rQ
 exact kA (λ_=>oD h kX) λ_=>kA (λ_=>oD h kX) λ_=>kA (λ_=>sQ h aT4 kX) λ_=>kA (λ_=>bY5 h) λ_ =>
  kA (λ_=>sQ h aT4 kX) λ_=>kA (λ_=>sQ h aT4 kX) λ_=>kA (λ_=>sQ h CI kX) λ_=>kA (λ_=>sQ h CI kX) λ_ =>
  kA (λ_=>sQ h CI kX) λ_=>kA (λ_=>oD h kX) λ_=>kA (λ_=>bZ1 (JV h)) λ_=>JV h
theorem YP (h:Fbd N q):Fbd N (eQ l q):=by
 unfold eQ;cases e:(if zT q then nN l q else none) with
 | some q' =>
  split at e
  ·exact bK1 h e
  ·cases e
 | none =>
  show Fbd N (yA l q);unfold yA;exact kA (λ_=>sQ h CI kX) λ_=>bY6 h
theorem bZ0 (hN:2<=N) {op:UInt8} (h:Fbd N q):Fbd N (sL l op q):=by
 have f {lv:Nat} {c:Rq}:Fbd N ((kD lv q).at c):=JV (MW hN h);have p {lv:Nat} {c:Rq} {o:Ov} (ho:blF N o.f=true):Fbd N (gD o ((kD lv q).at c)):=oD (MW hN h) ho;unfold sL;exact kA (λ_=>kA (λ_=>f) λ_=>p kX) λ_=>kA (λ_=>kA (λ_=>f) λ_=>p kX) λ_=>kA (λ_=>f) λ_=>p kX
theorem cH9 (c:Rq):blF N (c.joV l)=true:=by
 unfold Rq.joV
 split
 ·exact kX
 split
 ·exact kX
 split
 ·exact kX
 split
 ·exact kX
 ·exact kX
theorem bY7 (hN:2<=N) (h:Fbd N q):Fbd N (yJ l q):=by
 unfold yJ;exact kA (λ_=>JV h) λ_=>oD (q:=kD _ q) (c:=q.c.joS l) (MW hN h) (cH9 _)
theorem aL9 (h:Fbd N q):blF N (eC q).f=true:=by
 unfold eC;cases e:q.op with
 | nil=>exact kX
 | cons o r=>exact h.op o (by rw [e];exact bH ..)
theorem bX7 (h:Fex q):(eC q).f.ex.length<=q.c.i:=by
 unfold eC;cases e:q.op with
 | nil=>exact aN _
 | cons o r=>exact h o (by rw [e];exact bH ..)
theorem cA4 (h:Fbd N q) (k:Fex q) (hi:q.c.i<N):((eC q).f.ex++[tE q.x]).length<=N/\∀ e∈(eC q).f.ex++[tE q.x],blE N e=true:=by
 refine ⟨?_,λe he=>?_⟩
 ·rw [aC];have:=bX7 k;simp only [aF,aH];omega
 ·rcases cJ.1 he with he | he
  ·exact cL4 (aL9 h) e he
  ·rw [bS.1 he];exact GC h.x
theorem bY9 (hN:2<=N) (h:Fbd N q) (k:Fex q) (hi:q.c.i<N):Fbd N (nG l q):=by
 have s:=cA4 h k hi;have t:=aL9 h;have e1:=bl1 hN (GC h.x);unfold nG
 refine kA (λ_=>⟨h.x,h.op⟩) λ_=>kA (λ_=>ID h (aA3 h.x) (LX h.x).1 (LX h.x).2) λ_=>kA (λ_=>?_) λ_ =>
  kA (λ_=>kA (λ_=>ID h (xU h.x) (DV e1.1 e1.2) kX) λ_=>ID h (xU h.x) CI (MX t e1.1 e1.2)) λ_ =>
  kA (λ_=>⟨xU h.x,λz hz=>?_⟩) λ_=>kA (λ_=>ID h (xU h.x) CI (MX t s.1 s.2)) λ_=>JV h
 ·have n1:=bl1 (e:=.mk 1 [] ((q.c.nx.exS l [62,61]).nbV l) []) hN aT4;have f1:=bf1 hN (JC h.x);exact ID h (NG h.x) CI (VP (MX t n1.1 n1.2) f1.1 f1.2)
 ·have hz':z∈(⟨(eC q).kd,(eC q).lv,(eC q).tm,(eC q).op,(eC q).f.wEx ((eC q).f.ex++[tE q.x])⟩:Ov)::q.op.tail:=hz;rcases bM.1 hz' with e | hz
  ·subst e;exact MX t s.1 s.2
  ·exact h.op z (List.mem_of_mem_tail hz)
theorem bK0 (hN:2<=N) (h:Fbd N q) (k:Fex q) (hi:q.c.i<N):Fbd N (lS l q):=by
 unfold lS;refine kA (λ_=>?_) λ_=>YP h;unfold gB;cases q.c.sym l with
 | some i=>exact bZ0 hN h
 | none =>
  show Fbd N (rS l q);unfold rS;exact kA (λ_=>bY7 hN h) λ_=>kA (λ_=>bY9 hN (MW hN h) (BO k) hi) λ_=>JV h
theorem bY8:Fbd N ON:=⟨λv h=>(by cases h),λo ho=>by rw [bS.1 ho];exact kX⟩
/-! ### Where it ends, an operand stands ready -/
def Dnr (q:Ps):Prop:=q.dn=false\/q.rd=true
theorem kB {c:Prop} [Decidable c] {a b:Ps} (h1:c->Dnr a) (h2:¬ c->Dnr b):Dnr (if c then a else b):=by
 by_cases hc:c
 ·rw [aK hc];exact h1 hc
 ·rw [aA hc];exact h2 hc
theorem bK9 (hd:q.dn=false):Dnr (lS l q):=by
 have pu {o:Ov} {c:Rq}:Dnr (gD o (q.at c)):=.inl hd;have gi {v:Vl} {c:Rq}:Dnr (iU v (q.at c)):=.inl hd;have at_ {c:Rq}:Dnr (q.at c):=.inl hd
 have opd:Dnr (eQ l q):=by
  unfold eQ;cases e:(if zT q then nN l q else none) with
  | some q' =>
   split at e
   ·unfold nN at e
    split at e
    ·injection e with e;subst e;exact pu
    split at e
    ·injection e with e;subst e;exact pu
    split at e
    ·injection e with e;subst e;exact pu
    split at e
    ·injection e with e;subst e;exact pu
    split at e
    ·injection e with e;subst e;exact pu
    split at e
    ·injection e with e;subst e;exact pu
    split at e
    ·injection e with e;subst e;exact pu
    ·cases e
   ·cases e
  | none =>
   show Dnr (yA l q);unfold yA rQ xD AP
   refine kB (λ_=>gi) λ_=>kB (λ_=>pu) λ_=>kB (λ_=>pu) λ_=>kB (λ_=>gi) λ_=>kB (λ_=>kB (λ_=>kB (λ_=>pu) λ_=>gi) λ_=>gi) λ_ =>
    kB (λ_=>gi) λ_=>kB (λ_=>gi) λ_=>kB (λ_=>gi) λ_=>kB (λ_=>gi) λ_=>kB (λ_=>gi) λ_=>kB (λ_=>pu) λ_=>kB (λ_=>kB (λ_=>.inl hd) λ_=>.inl hd) λ_=>at_
 unfold lS;refine kB (λhr=>?_) λ_=>opd;unfold gB;cases q.c.sym l with
 | some i =>
  show Dnr (sL l _ q);unfold sL;exact kB (λ_=>kB (λ_=>.inl hd) λ_=>.inl hd) λ_=>kB (λ_=>kB (λ_=>.inl hd) λ_=>.inl hd) λ_=>kB (λ_=>.inl hd) λ_=>.inl hd
 | none =>
  show Dnr (rS l q);unfold rS yJ nG;exact kB (λ_=>kB (λ_=>.inl hd) λ_=>.inl hd) λ_=>kB (λ_=>kB (λ_=>.inr hr) λ_=>kB (λ_=>.inl hd) λ_=>kB (λ_=>.inl hd) λ_=>kB (λ_=>kB (λ_=>.inl hd) λ_=>.inl hd) λ_=>kB (λ_=>.inl hd) λ_=>kB (λ_=>.inl hd) λ_=>.inl hd) λ_=>.inl hd
end
section
variable {l:Tks} {r r' ra m:Rq} {w w':Str} {i j:Nat}
def ndF (f:Fm):Fn:=if f.op=4 then ⟨true,true,f,.mk 5 (f.nm++([46]:Str)++f.fd) 0 []⟩ else mdN f
theorem FI (f:Fm):(ndF f).f=f/\(ndF f).fm=true:=by
 unfold ndF
 split <;> exact ⟨Z,Z⟩
theorem bF1 {f:Fm} (h:¬ f.op=4):ndF f=mdN f:=aA h
def bsF (op:UInt8):Nat:=if (cK op).lv<6 then (cK op).lv else if op=3 then 6 else 10
def Fd (l:Tks) (f:Fm):Prop:=∀ r r',Sps l r (tqF f) r'->Nx l (bsF f.op+1) r'->Rl l (bsF f.op) r (ndF f) r'
theorem bG1 (op:UInt8):(cK op).lv<=6:=pK (q:=λop=>(cK op).lv<=6) qS op
theorem aN2 (op:UInt8):(cK op).lv<=bsF op/\bsF op<=10:=by
 have:=bG1 op;unfold bsF
 split
 ·omega
 ·split <;> omega
theorem MU {g:Fm} (h:Fd l g) {b:Bool} (hl:1<=(cK g.op).lv) (hj:1<=j/\j<=5) (hb:b=false->j<=(cK g.op).lv) (s:Sps l r (prQ b (tqF g)) r') (hx:Nx l (j+1) r'):Rl l j r (ndF g) r':=by
 have e:=(sJ s).2;have h1:=aN2 g.op;cases b with
 | true =>
  have:=bD4 (N:=ndF g) (show Sps l r ((4,[40])::(tqF g++[(4,[41])])) r' from s) λm sm hm=>(h _ _ sm (hm.up aD)).at (sJ sm).2 (aY _) aD aD hm;exact this.to e aD aD (aY _) hx (λk=>hx.up aD)
 | false =>
  have:=hb rfl;exact (h _ _ s (hx.up aD)).to e aD aD aD hx (λk=>hx.up aD)
theorem MV {g:Fm} (h:Fd l g) {b:Bool} (hl:1<=(cK g.op).lv) (hb:b=false->5<=(cK g.op).lv) (s:Sps l r (prQ b (tqF g)) r') (hx:Nx l 6 r'):Gd l (.lev 5) r (ndF g) false r':=(MU (j:=5) h hl aS hb s hx).full hx.n5
theorem bE7 {j:Nat} {N:Fn} (h:¬ lpB j) (g:Gd l (.lev j) r N false r'):Rl l j r N r':=⟨λe=>absurd e h,λ_=>g⟩
theorem aY1 {op:UInt8} {a b:Int64} {gs:List Fm} (hw:bnW a b) (hwn:(cK op).wn=true) (s:Sps l r (CN (.mk op [] [] a b [] gs)) m) (hno:r=m->r.ac l [91]=false):r.wiS l=m/\r.wiA l=a/\r.wiB l=b:=by
 unfold CN at s;simp only [Fm.op,hwn,Fm.a,Fm.b] at s;unfold Rq.wiS Rq.wiA Rq.wiB
 by_cases h:b.toInt<0
 ·rw [aK (by simp [h])] at s;obtain ⟨e,rfl⟩:=s;have hn:¬ m.ac l [91]=true:=by rw [hno rfl];decide
  rw [aA hn,aA hn,aA hn];rcases hw with ⟨rfl,rfl⟩ | hw
  ·exact ⟨Z,Z,Z⟩
  ·omega
 ·rw [aA (by simp [h])] at s;obtain ⟨t0,t1,t2,t3,t4,e,rfl⟩:=s
  have hab:0<=a.toInt/\0<=b.toInt:=by
   rcases hw with ⟨rfl,rfl⟩ | hw
   ·exact absurd aS h
   ·omega
  have hy:=wL t0 (.inr Z);have n1:=bO4 t1 hab.1;have n3:=bO4 t3 hab.2;rw [aK hy,aK hy,aK hy,n1.1,IM t2 (.inr Z),n3.1,IM t4 (.inr Z),n1.2,n3.2];exact ⟨Z,Z,Z⟩
theorem bH8 {n:Int64} (h:-1000000<=n.toInt) (s:Sps l r (aD5 n.toInt) m):r.boS l=m/\r.boV l=n:=by
 unfold aD5 at s;unfold Rq.boS Rq.boV
 by_cases h0:n.toInt<0
 ·rw [aK h0] at s;obtain ⟨t0,t1,e,rfl⟩:=s;have hy:=wL t0 (.inr Z);have hb:=cR9 t1 aD;rw [aK hy,aK hy,hb.1,hb.2];refine ⟨Z,nK.1 ?_⟩;have h1:(Int64.ofNat n.toInt.natAbs).toInt=(n.toInt.natAbs:Int):=iC aD;rw [Int64.toInt_neg,h1,Int.bmod_eq_of_le aD aD];omega
 ·rw [aA h0] at s;obtain ⟨t0,e,rfl⟩:=s;have hn:¬ r.ac l [45]=true:=by rw [cU0 t0 (.inr Z)];decide
  rw [aA hn,aA hn];exact bO4 t0 aD
theorem bN7 {op:UInt8} {nm:Str} {a b:Int64} {ex:List Ex} {gs:List Fm} (ha:-1000000<=a.toInt) (hb:-1000000<=b.toInt) (s:Sps l r (LP (.mk op nm [] a b ex gs)) m):r.amS l=m/\∀ o,r.amV l o=.mk o nm [] a b [] []:=by
 unfold LP at s;simp only [Fm.nm,Fm.a,Fm.b] at s;obtain ⟨t0,t1,s⟩:=s;obtain ⟨m1,s1,t2,s2⟩:=nV s;have e1:r.ama l=r.nx.nx:=by unfold Rq.ama;rw [LK t0,IM t1 (.inl Z)]
 have i1:=bH8 ha s1;have e2:r.amb l=m1.nx:=by unfold Rq.amb;rw [e1,i1.1,IM t2 (.inr Z)]
 have i2:=bH8 hb s2;unfold Rq.amS Rq.amV;rw [e2,i2.1,e1,i1.2,i2.2,DZ t0];exact ⟨Z,λ_=>rfl⟩
theorem bQ4 (f:Fm) (x:Ex) (es:List Ex):(f.wEx (f.ex++[x])).wEx ((f.wEx (f.ex++[x])).ex++es)=f.wEx (f.ex++(x::es)):=by
 show f.wEx (f.ex++[x]++es)=_;rw [aV];rfl
theorem bN5:∀ (es:List Ex) (f:Fm) (r r':Rq),es≠[]->(∀ x∈es,(x=zE\/eI x=true)/\oT x=false)->Sps l r (GO (es.map tqT)++[(4,[41])]) r'->Gd l (.arg f) r (mdN (f.wEx (f.ex++es))) false r'/\r.ac l [41]=false
 | [],_,_,_,h,_,_=>absurd rfl h
 | [x],f,r,r',_,hx,s=>by
  obtain ⟨m,s1,t,e,rfl⟩:=nV s
  have ga:∀ f',Gd l (.aft f') m (mdN f') false m.nx:=λf'=>by
   have g:=Gd.afE (f:=f') (cB4 (w':=[44]) t aS);rw [IM t (.inr Z)] at g;exact g
  obtain ⟨h1,h2⟩:=hx x fG;rcases h1 with rfl | h1
  ·obtain ⟨t0,e0,rfl⟩:=(show Sps l r [(4,[95])] m from s1);exact ⟨.arU (wL t0 (.inr Z)) (ga _),cB4 t0 aS⟩
  ·have hx7:Nx l 7 m:=.tok t aS;have g1:=(aA9 x h1 h2 _ _ s1 (hx7.up (by have:=xV x.op;omega))).at (sJ s1).2 aD (show 7<=tlv x.op+3 by have:=xV x.op;omega) (by have:=JF x.op;omega) hx7;have hf:=DE g1 _ rfl (sJ s1).2;refine ⟨?_,hf.1 _ aS⟩;have g:=Gd.arT (f:=f) (hf.1 _ aS) g1 (ga _);rw [(vG x).1,(vG x).2] at g;exact g
 | x::y::es,f,r,r',_,hx,s=>by
  obtain ⟨m,s1,s2⟩:=nV (show Sps l r (tqT x++((4,[44])::(GO ((y::es).map tqT)++[(4,[41])]))) r' from by
   have e:GO ((x::y::es).map tqT)++[(4,[41])]=tqT x++((4,[44])::(GO ((y::es).map tqT)++[(4,[41])])):=by
    show (tqT x++(4,[44])::GO ((y::es).map tqT))++_=_;simp only [aV,bY]
   rw [<-e];exact s)
  obtain ⟨t,s3⟩:=s2
  have ga:Gd l (.aft (f.wEx (f.ex++[x]))) m (mdN (f.wEx (f.ex++(x::y::es)))) false r':=by
   have g:=(bN5 (y::es) (f.wEx (f.ex++[x])) m.nx r' fG (λz hz=>hx z (cD _ hz)) s3).1;rw [bQ4] at g;exact .afC (wL t (.inr Z)) g
  obtain ⟨h1,h2⟩:=hx x fG;rcases h1 with rfl | h1
  ·obtain ⟨t0,e0,rfl⟩:=(show Sps l r [(4,[95])] m from s1);exact ⟨.arU (wL t0 (.inr Z)) ga,cB4 t0 aS⟩
  ·have hx7:Nx l 7 m:=.tok t aS;have g1:=(aA9 x h1 h2 _ _ s1 (hx7.up (by have:=xV x.op;omega))).at (sJ s1).2 aD (show 7<=tlv x.op+3 by have:=xV x.op;omega) (by have:=JF x.op;omega) hx7;have hf:=DE g1 _ rfl (sJ s1).2;refine ⟨?_,hf.1 _ aS⟩;have g:=Gd.arT (f:=f) (n:=mdN (f.wEx (f.ex++(x::y::es)))) (hf.1 _ aS) g1 (by rw [(vG x).1];exact ga);rw [(vG x).2] at g;exact g
theorem t7 {x:Ex} (h1:eI x=true) (h2:oT x=false) (s:Sps l r (tqT x) m) (hx:Nx l 7 m):Gd l (.lev 7) r (ndE x) false m :=
 (aA9 x h1 h2 _ _ s (hx.up (by have:=xV x.op;omega))).at (sJ s).2 aD (by have:=xV x.op;omega) (by have:=JF x.op;omega) hx
theorem aC4 {op:UInt8} {a b:Int64} {nm:Str} {g:Fm} (hp:(w,op)∈LN) (t0:r.er=0/\kt (tkf l r.i)=(2,w)) (hg:Gd l (.lev 5) (r.prS l op) (ndF g) false r') (hf:r.prF l op=.mk op nm [] a b [] []) (h4:¬ op=4):Rl l 5 r (ndF (.mk op nm [] a b [] [g])) r':=by
 have G:=Gd.pre hp (wL t0 (.inl Z)) hg;rw [(FI g).1,(FI g).2,hf] at G;rw [bF1 (show ¬ (Fm.mk op nm [] a b [] [g]).op=4 from h4)];exact bE7 (by unfold lpB;decide) G
theorem cC5 {op:UInt8} {a b:Int64} {f g:Fm} {k:Nat} (hk:1<=k/\k<=4) (A:Rl l k r (ndF f) ra) (t0:ra.er=0/\kt (tkf l ra.i)=(2,joW k)) (hj:ra.jnF l k=.mk op [] [] a b [] []) (hB:Gd l (.lev (k+1)) (ra.jnS l k) (ndF g) false r') (h4:¬ op=4):Rl l k r (ndF (.mk op [] [] a b [] [f,g])) r':=by
 have hl:lpB k:=.inl hk;refine ⟨λ_ n m r2 gg=>?_,λe=>absurd hl e⟩
 have g':Gd l (.lp k (mdN ((ra.jnF l k).wAr [(ndF f).f,(ndF g).f]))) r' n m r2:=by
  rw [(FI f).1,(FI g).1,hj];rw [bF1 (show ¬ (Fm.mk op [] [] a b [] [f,g]).op=4 from h4)] at gg;exact gg
 have G:=Gd.join hk (wL t0 (.inl Z)) hB g';rw [(FI f).2,(FI g).2] at G;exact A.1 hl _ _ _ G
theorem bE0:∀ o∈([16,17,18,19,20,21]:List UInt8),(16<=o.toNat/\o.toNat<=21)/\∀ x∈cuL,7<=x.1->¬ vK o=x.2:=by decide +kernel
theorem cR1 {op:UInt8} (ho:op=9\/op=10\/op=11):bsF op=(cK op).lv/\(1<=(cK op).lv/\(cK op).lv<=3)/\joW (cK op).lv=iQ op/\UInt8.ofNat (12 - (cK op).lv)=op:=by
 rcases ho with rfl | rfl | rfl <;> decide
theorem cK2 (f:Fm):Fm.all jJ f=true->Fm.all rN f=true->Fd l f:=by
 induction f using Fm.ind with
 | _ op nm fd a b ex args ih =>
  intro hf hn r r' s hx;obtain ⟨hf,hfs⟩:=wJ hf;rw [kF,aE,bD] at hn;obtain ⟨hn,hns⟩:=hn;obtain ⟨n1,n2,n3⟩:=ML hn
  have ih':∀ g∈args,Fd l g/\1<=(cK g.op).lv:=λg hg=>⟨ih g hg (hfs g hg) (hns g hg),by
   have:=hfs g hg;obtain ⟨o,x1,x2,x3,x4,x5,x6⟩:=g;have h0:=(kJ (wJ this).1).1;show 1<=(cK o).lv;omega⟩
  have hg:=IB hf;clear ih hfs hns hf hn;rw [FM] at s;cases hg with
  | tf h =>
   rcases h with rfl | rfl
   ·obtain ⟨t0,e,rfl⟩:=(show Sps l r [(2,[116,114,117,101])] r' from s);exact .of10 (Gd.tru (wL t0 (.inl Z)))
   ·obtain ⟨t0,e,rfl⟩:=(show Sps l r [(2,[102,97,108,115,101])] r' from s);exact .of10 (Gd.fal (wL t0 (.inl Z)))
  | @cmp o x y h hx1 hy1 =>
   have hm:=n3 _ (bS.2 rfl);have m3:=(GM hm).2.2;obtain ⟨m,s1,t0,s2⟩:=nV (show Sps l r (tqT x++(4,vK o)::tqT y) r' from s);have hx7:Nx l 7 m:=.tok t0 (bE0 o h).2;have g1:=t7 hx1 (m3 x fG) s1 hx7;have g2:=t7 hy1 (m3 y fG) s2 hx;have hi:=(bE0 o h).1;have g:=Gd.cm1 hi g1 (wL t0 (.inr Z)) g2;unfold opB at g;rw [(vG x).1,(vG y).1,(vG x).2,(vG y).2,fU] at g;exact bE7 (j:=6) (by unfold lpB;decide) g
  | var =>
   obtain ⟨t0,t1,t2,e,rfl⟩:=(show Sps l r [(1,nm),(4,[46]),(1,fd)] r' from s);have e2:r.nx.nx.nmS l=r.nx.nx.nx:=LK t2;have g:=Gd.nam1 t0.1 (QL t0.2) (wL t1 (.inr Z)) (by rw [e2];exact hx.brk (show bsF 4+1<=20 by decide));rw [e2,DZ t0,DZ t2,aD9 t0 t2] at g;exact .of10 g
  | @has _ _ x hx1 =>
   obtain ⟨t0,t1,t2,t3,t4,s⟩:=(show Sps l r ((2,[104,97,115])::(1,nm)::(4,[46])::(1,fd)::(4,[91])::(tqT x++[(4,[93])])) r' from s);obtain ⟨m,s1,t5,e,rfl⟩:=nV s;obtain ⟨p1,p2,p3⟩:=bD6 t1 t2 t3;have e1:(r.nx.paS l).exS l [91]=r.nx.nx.nx.nx.nx:=by rw [p1,IM t4 (.inr Z)]
   have g:=Gd.has (wL t0 (.inl Z)) (by rw [e1];exact t7 hx1 (n3 x fG) s1 (.tok t5 aS));unfold Rq.paV at g;rw [p2,p3,(vG x).1,(vG x).2,IM t5 (.inr Z)] at g;exact .of10 g
  | flg =>
   obtain ⟨t0,t1,e,rfl⟩:=(show Sps l r [(2,[102,108,97,103]),(1,nm)] r' from s);have g:=Gd.flg (wL t0 (.inl Z));rw [LK t1,DZ t1] at g;exact .of10 g
  | arr hl hxs =>
   obtain ⟨t0,t1,t2,t3,t4,s⟩:=(show Sps l r ((2,[97,114,114,105,118,101,115])::(1,nm)::(4,[46])::(1,fd)::(4,[40])::(GO (ex.map tqT)++[(4,[41])])) r' from s);obtain ⟨p1,p2,p3⟩:=bD6 t1 t2 t3;have e1:(r.nx.paS l).exS l [40]=r.nx.nx.nx.nx.nx:=by rw [p1,IM t4 (.inr Z)]
   have pv:r.nx.paV l 7=.mk 7 nm fd 0 0 [] []:=by unfold Rq.paV;rw [p2,p3]
   by_cases h0:ex=[]
   ·subst h0;obtain ⟨t5,e,rfl⟩:=(show Sps l r.nx.nx.nx.nx.nx [(4,[41])] r' from s);have g:=Gd.arr0 (wL t0 (.inl Z)) (by rw [e1];exact wL t5 (.inr Z));rw [e1,pv] at g;exact .of10 g
   ·have g1:=bN5 ex (.mk 7 nm fd 0 0 [] []) _ _ h0 (λx h=>⟨hxs x h,n3 x h⟩) s;have g:=Gd.arr (wL t0 (.inl Z)) (by rw [e1];exact g1.2) (by rw [e1,pv];exact g1.1);exact .of10 g
  | @un _ g h =>
   obtain ⟨g1,hl⟩:=ih' g fG;have e1:fqO (.mk op [] [] 0 0 [] [g]) ([g].map λf=>(f.op,tqF f))=(2,iQ op)::prQ (decide ((cK g.op).lv<5)) (tqF g):=by rcases h with rfl | rfl <;> rfl
   rw [e1] at s;obtain ⟨t0,s⟩:=s;have hb:bsF op=5:=by rcases h with rfl | rfl <;> decide
   rw [show (Fm.mk op [] [] 0 0 [] [g]).op=op from rfl,hb] at hx|-;have G:=MV g1 hl (QP aD) s hx;exact aC4 (w:=iQ op) (by rcases h with rfl | rfl <;> decide) t0 (by rcases h with rfl | rfl <;> exact G) (by rcases h with rfl | rfl <;> rfl) (by rcases h with rfl | rfl <;> decide)
  | @win _ _ _ g h hw =>
   obtain ⟨g1,hl⟩:=ih' g fG;have e1:fqO (.mk op [] [] a b [] [g]) ([g].map λf=>(f.op,tqF f))=(2,iQ op)::(CN (.mk op [] [] a b [] [g])++prQ (decide ((cK g.op).lv<5)) (tqF g)):=by rcases h with rfl | rfl <;> rfl
   rw [e1] at s;obtain ⟨t0,s⟩:=s;obtain ⟨m,s1,s2⟩:=nV s;have hb:bsF op=5:=by rcases h with rfl | rfl <;> decide
   rw [show (Fm.mk op [] [] a b [] [g]).op=op from rfl,hb] at hx|-;have G:=MV g1 hl (QP aD) s2 hx;have hf:=(DE G _ rfl (sJ s2).2).1 [91] aS;obtain ⟨w1,w2,w3⟩:=aY1 hw (by rcases h with rfl | rfl <;> rfl) s1 (λe=>by rw [e];exact hf);have pS:r.prS l op=m:=by unfold Rq.prS;rw [aK h,w1]
   have pF:r.prF l op=.mk op [] [] a b [] []:=by unfold Rq.prF Rq.wiV;rw [aK h,w2,w3]
   exact aC4 (w:=iQ op) (by rcases h with rfl | rfl <;> decide) t0 (by rw [pS];exact G) pF (by rcases h with rfl | rfl <;> decide)
  | @amo _ _ _ _ g h ha hb' =>
   obtain ⟨g1,hl⟩:=ih' g fG;have e1:fqO (.mk op nm [] a b [] [g]) ([g].map λf=>(f.op,tqF f))=(2,iQ op)::(LP (.mk op nm [] a b [] [g])++prQ (decide ((cK g.op).lv<5)) (tqF g)):=by rcases h with rfl | rfl <;> rfl
   rw [e1] at s;obtain ⟨t0,s⟩:=s;obtain ⟨m,s1,s2⟩:=nV s;have hb:bsF op=5:=by rcases h with rfl | rfl <;> decide
   rw [show (Fm.mk op nm [] a b [] [g]).op=op from rfl,hb] at hx|-;have G:=MV g1 hl (QP aD) s2 hx;obtain ⟨w1,w2⟩:=bN7 ha hb' s1;have pS:r.prS l op=m:=by unfold Rq.prS;rw [aA (by rcases h with rfl | rfl <;> decide),aK h,w1]
   have pF:r.prF l op=.mk op nm [] a b [] []:=by unfold Rq.prF;rw [aA (by rcases h with rfl | rfl <;> decide),aK h,w2]
   exact aC4 (w:=iQ op) (by rcases h with rfl | rfl <;> decide) t0 (by rw [pS];exact G) pF (by rcases h with rfl | rfl <;> decide)
  | @cnt _ _ _ n g ha hb' hn0 =>
   obtain ⟨g1,hl⟩:=ih' g fG;obtain ⟨t0,s⟩:=(show Sps l r ((2,[99,111,117,110,116])::(LP (.mk 18 nm [] a b [.mk 1 [] n []] [g])++(4,[40])::(tqF g++(4,[41])::(4,[62,61])::[(3,Lib.itoa n.toInt)]))) r' from s);obtain ⟨m,s1,t1,s⟩:=nV s;obtain ⟨m2,s2,t2,t3,t4,e,rfl⟩:=nV s;obtain ⟨w1,w2⟩:=bN7 ha hb' s1;have e1:(r.nx.amS l).exS l [40]=m.nx:=by rw [w1,IM t1 (.inr Z)]
   have hx1:Nx l 1 m2:=.tok t2 aS;have G:=(g1 _ _ s2 (hx1.up aD)).at (sJ s2).2 (aY _) (by have:=aN2 g.op;omega) (aN2 g.op).2 hx1;have gg:=Gd.cnt (wL t0 (.inl Z)) (by rw [e1];exact G);have nu:=bO4 t4 hn0;rw [(FI g).1,(FI g).2,IM t2 (.inr Z),IM t3 (.inr Z),nu.1,nu.2,w2] at gg;exact bE7 (j:=5) (by unfold lpB;decide) gg
  | @bin _ g h ho =>
   obtain ⟨g1,hl1⟩:=ih' g fG;obtain ⟨g2,hl2⟩:=ih' h fG;have e1:fqO (.mk op [] [] 0 0 [] [g,h]) ([g,h].map λf=>(f.op,tqF f))=prQ (decide ((cK g.op).lv<(cK op).lv)) (tqF g)++(2,iQ op)::prQ (decide ((cK h.op).lv<(cK op).lv+1)) (tqF h):=by rcases ho with rfl | rfl | rfl <;> rfl
   rw [e1] at s;obtain ⟨m,s1,t0,s2⟩:=nV s;obtain ⟨hb,hk,hw,hop⟩:=cR1 ho;rw [show (Fm.mk op [] [] 0 0 [] [g,h]).op=op from rfl,hb] at hx|-;have hxm:Nx l ((cK op).lv+1) m:=.tok t0 (by rcases ho with rfl | rfl | rfl <;> decide);have A:=MU (j:=(cK op).lv) g1 hl1 aD (QP aD) s1 hxm;have B:=(MU (j:=(cK op).lv+1) g2 hl2 aD (QP aD) s2 (hx.up (Nat.le_succ _))).full hx;exact cC5 (k:=(cK op).lv) aD A (by rw [hw];exact t0) (by unfold Rq.jnF;rw [aA aD,hop]) (by unfold Rq.jnS;rw [aA aD];exact B) (by rcases ho with rfl | rfl | rfl <;> decide)
  | @snc _ _ g h hw =>
   obtain ⟨g1,hl1⟩:=ih' g fG;obtain ⟨g2,hl2⟩:=ih' h fG;obtain ⟨m,s1,t0,s2⟩:=nV (show Sps l r (prQ (decide ((cK g.op).lv<4)) (tqF g)++(2,[115,105,110,99,101])::(CN (.mk 15 [] [] a b [] [g,h])++prQ (decide ((cK h.op).lv<5)) (tqF h))) r' from s);obtain ⟨m2,s3,s4⟩:=nV s2;have hxm:Nx l 5 m:=.tok t0 aS;have A:=MU (j:=4) g1 hl1 aD (QP aD) s1 hxm;have B:=MV g2 hl2 (QP aD) s4 (hx.up (show bsF 15+1<=6 by decide));have hf:=(DE B _ rfl (sJ s4).2).1 [91] aS;obtain ⟨w1,w2,w3⟩:=aY1 hw rfl s3 (λe=>by rw [e];exact hf);exact cC5 (k:=4) aS A t0 (by unfold Rq.jnF Rq.wiV;rw [aK rfl,w2,w3]) (by unfold Rq.jnS;rw [aK rfl,w1];exact B) aS
theorem cK1 {f:Fm} (hf:Fm.all jJ f=true) (hn:Fm.all rN f=true) {k:Nat} (hk:1<=k) (hb:k<=(cK f.op).lv) (s:Sps l r (tqF f) r') (hx:Nx l k r'):Gd l (.lev k) r (ndF f) false r':=by
 have:=aN2 f.op;exact (cK2 f hf hn r r' s (hx.up aD)).at (sJ s).2 hk aD this.2 hx
theorem cK0 {f:Fm} (hf:Fm.all jJ f=true):1<=(cK f.op).lv:=by
 obtain ⟨o,x1,x2,x3,x4,x5,x6⟩:=f;have h0:=(kJ (wJ hf).1).1;show 1<=(cK o).lv;omega
end
theorem aJ5 (h:(pL s).map kt=ks):Sps (pX s) ⟨0,0,0⟩ ks ⟨ks.length,0,0⟩/\(tkf (pX s) ks.length).k=0:=by
 have hl:(pL s).length=ks.length:=by rw [<-h,aP]
 refine ⟨?_,?_⟩
 ·have:=bA6 (l:=pX s) ks 0 λj hj=>by
   unfold tkf pX;rw [dO,List.getD_eq_getElem?_getD,List.getElem?_append_left aD,List.getElem?_eq_getElem aD];subst h;rw [pI];rfl
  rwa [dO] at this
 ·unfold tkf pX;rw [List.getD_eq_getElem?_getD,List.getElem?_append_right aD,hl,hZ];rfl
variable {f:Fm}
theorem JU (h:gT f=0):f.count<=60/\Fm.all rM f=true/\Fm.all rN f=true/\Fm.all jJ f=true:=by
 unfold gT at h
 split at h
 ·cases h
 rename_i h1
 split at h
 ·cases h
 rename_i h2
 split at h
 ·cases h
 rename_i h3;rw [vR] at h1;exact ⟨aD,by simpa using h1.2,by simpa using h2,by simpa using h3⟩
theorem bU9 {n:Fn} {m:Bool} (h:(pL s).map kt=ks) (g:Gd (pX s) (.lev 1) ⟨0,0,0⟩ n m ⟨ks.length,0,0⟩):EY (pX s)=if m || !n.fm then (zF,0,6) else if ¬ gT n.f=0 then (zF,0,gT n.f) else (n.f,0,0):=by
 rw [cF7 (aZ7 s) (by rw [xW];omega) g];unfold bC5;have e:NV (pX s) ⟨ks.length,0,0⟩=⟨ks.length,0,0⟩:=by unfold NV;rw [aA (λk=>k.2 (aJ5 h).2)]
 rw [e,aA (λk=>k rfl)]
theorem bM7 (h:gT f=0):EY (pX (fmT f))=(f,0,0):=by
 obtain ⟨_,_,hn,hf⟩:=JU h
 have hk:(pL (fmT f)).map kt=tqF f:=by
  have:=(cN9 f hf hn [] [] bC3 .nil).1;rw [eL,eL] at this;exact this.lex
 obtain ⟨s,e⟩:=aJ5 hk;have g:=cK1 hf hn (aY 1) (cK0 hf) s (.fin e);rw [bU9 hk g,(FI f).1,(FI f).2,aA aS,aA (by rw [h];decide)]
def nsE (e:Ex):Bool:=Ex.all (λe=>decide (e.nm.length<=30)) e
theorem EH (e:Ex) (hn:nsE e=true):(tmT e).length<=130 * e.count:=by
 induction e using Ex.ind with | _ op nm n args ih
 unfold nsE at hn;rw [uR,nS,aE,aB,bD] at hn;obtain ⟨hn,ha⟩:=hn;have hn':nm.length<=30:=hn
 have hx:∀ (l:List (UInt8 × Str)),l=args.map (λe=>(e.op,tmT e))->(l.headD (0,[])).2.length+((l.drop 1).headD (0,[])).2.length<=130 * Ex.counts args:=by
  rintro l rfl
  match args,ih,ha with
  | [],_,_=>exact aN _
  | [a],ih,ha =>
   have:=ih a (bH ..) (ha a (bH ..));rw [Ex.counts,Ex.counts];show (tmT a).length+0<=_;omega
  | a::b::r,ih,ha =>
   have h1:=ih a (bH ..) (ha a (bH ..));have h2:=ih b (cD _ (bH ..)) (ha b (cD _ (bH ..)));rw [Ex.counts,Ex.counts];show (tmT a).length+(tmT b).length<=_;omega
 have hx:=hx _ rfl;rw [nF,wG];unfold aA6;generalize args.map (λe=>(e.op,tmT e))=l at hx|-;have hi:=lU n;have p1:=(mP (decide (tlv (l.headD (0,[])).1<6)) (l.headD (0,[])).2).2;have p2:=(mP (decide (tlv (l.headD (0,[])).1<tlv op)) (l.headD (0,[])).2).2;have p3:=(mP (decide (tlv ((l.drop 1).headD (0,[])).1<tlv op+1)) ((l.drop 1).headD (0,[])).2).2;have p4:=xX op;generalize Ex.counts args=C at hx|-
 repeat' split
 all_goals (try simp only [aC,aF,aH]);omega
def nsF (f:Fm):Bool:=Fm.all (λf=>decide (f.nm.length<=30) && decide (f.fd.length<=30) && f.ex.all nsE) f
theorem WU:∀ l:List Ex,(∀ e∈l,nsE e=true)->((l.map tmT).map List.length).sum<=130 * Ex.counts l
 | [],_=>aN _
 | e::r,h=>by
  rw [eP,eP,List.sum_cons,Ex.counts];have h1:=EH e (h e (bH ..));have h2:=WU r λx hx=>h x (cD _ hx);omega
theorem aZ6 (e:Ex) (h:nsE e=true):(tmT (ex0 e)).length+(tmT (ex1 e)).length<=130 * e.count:=by
 obtain ⟨op,nm,n,args⟩:=e;unfold nsE at h;rw [uR,nS,aE,bD] at h;rw [nF];have hz:tmT zE=[95]:=wG
 match args,h.2 with
 | [],_=>show (tmT zE).length+(tmT zE).length<=_;rw [hz,Ex.counts];decide
 | [x],h =>
  have:=EH x (h x (bH ..));show (tmT x).length+(tmT zE).length<=_;rw [hz,Ex.counts,Ex.counts];show _+1<=_;omega
 | x::y::r,h =>
  have h1:=EH x (h x (bH ..));have h2:=EH y (h y (cD _ (bH ..)));show (tmT x).length+(tmT y).length<=_;rw [Ex.counts,Ex.counts];omega
theorem bI8 (F:Fm) (l:List (UInt8 × Str)) (C D:Nat) (h1:F.nm.length<=30) (h2:F.fd.length<=30) (he:(tmT (exH F)).length+(tmT (ex0 (exH F))).length+(tmT (ex1 (exH F))).length<=260 * D+3)
 (hj:(qM ([44,32]:Str) (F.ex.map tmT)).length<=132 * D) (hx:(l.headD (0,[])).2.length+((l.drop 1).headD (0,[])).2.length<=400 * C) (w1:(wF F).length<=46) (w2:(DX F).length<=F.nm.length+49):(PA F l).length<=400 * (D+C+1):=by
 have w3:=JB F.op;have w4:=xX (exH F).op;have p1:=(mP (decide ((cK (l.headD (0,[])).1).lv<5)) (l.headD (0,[])).2).2;have p2:=(mP (decide ((cK (l.headD (0,[])).1).lv<(cK F.op).lv)) (l.headD (0,[])).2).2;have p3:=(mP (decide ((cK ((l.drop 1).headD (0,[])).1).lv<(cK F.op).lv+1)) ((l.drop 1).headD (0,[])).2).2;unfold PA
 repeat' split
 all_goals (try simp only [aC,aF,aH]);omega
theorem aL5 (f:Fm) (hn:nsF f=true):(fmT f).length<=400 * f.count:=by
 induction f using Fm.ind with | _ op nm fd a b ex args ih
 unfold nsF at hn;rw [kF,aE,aE,aE,aB,aB,bD,bD] at hn;obtain ⟨⟨⟨hn,hf⟩,he⟩,ha⟩:=hn;have hn':nm.length<=30:=hn;have hf':fd.length<=30:=hf;have he':∀ e∈ex,nsE e=true:=he
 have hx:∀ (l:List (UInt8 × Str)),l=args.map (λf=>(f.op,fmT f))->(l.headD (0,[])).2.length+((l.drop 1).headD (0,[])).2.length<=400 * Fm.counts args:=by
  rintro l rfl
  match args,ih,ha with
  | [],_,_=>exact aN _
  | [a],ih,ha =>
   have:=ih a (bH ..) (ha a (bH ..));rw [Fm.counts,Fm.counts];show (fmT a).length+0<=_;omega
  | a::b::r,ih,ha =>
   have h1:=ih a (bH ..) (ha a (bH ..));have h2:=ih b (cD _ (bH ..)) (ha b (cD _ (bH ..)));rw [Fm.counts,Fm.counts];show (fmT a).length+(fmT b).length<=_;omega
 have hx:=hx _ rfl
 have he0:(tmT (exH (.mk op nm fd a b ex args))).length+(tmT (ex0 (exH (.mk op nm fd a b ex args)))).length+(tmT (ex1 (exH (.mk op nm fd a b ex args)))).length<=260 * Ex.counts ex+3:=by
  have hz:tmT zE=[95]:=wG
  match ex,he' with
  | [],_ =>
   show (tmT zE).length+(tmT zE).length+(tmT zE).length<=_;rw [hz];show 3<=_;omega
  | e::r,h =>
   have h1:=EH e (h e (bH ..));have h2:=aZ6 e (h e (bH ..));show (tmT e).length+(tmT (ex0 e)).length+(tmT (ex1 e)).length<=_;rw [Ex.counts];omega
 have hj:=MN ([44,32]:Str) (ex.map tmT);have hs:=WU ex he';have hl2:=aF0 ex;rw [aP] at hj;rw [iA,vH];have e2:([44,32]:Str).length=2:=rfl;rw [e2] at hj;exact bI8 _ _ _ _ hn' hf' he0 (aZ hj aD) hx TS MY
theorem OE (e:Ex):oT e=false->eI e=true->nsE e=true:=by
 induction e using Ex.ind with | _ op nm n args ih
 intro h ht;obtain ⟨m1,_,m3⟩:=GM h;unfold nsE;rw [uR,nS,aE,aB,bD]
 have nm30:(op=5\/op=6\/op=8)->nm.length<=30:=λho=>by
  have k:=m1 ho;unfold nmQ at k;cases hs:eN nm with
  | none=>rw [hs] at k;have:=(nX k).2.2.2.2;omega
  | some x =>
   obtain ⟨a,b⟩:=x;rw [hs] at k;simp only [aE] at k;have k1:=(nX k.1).2.2.2.2;have k2:=(nX k.2).2.2.2.2;rw [tY hs,aC,aC];show a.length+1+b.length<=30;omega
 show nm.length<=30/\_;rcases NJ ht with ⟨rfl,rfl,_,rfl⟩ | ⟨rfl,rfl,_,rfl⟩ | ⟨ho,_,rfl⟩ | ⟨rfl,_,a,rfl,ha⟩ | ⟨rfl,rfl,_,a,rfl,ha⟩ | ⟨_,rfl,_,a,b,rfl,ha,hb⟩
 ·exact ⟨aS,λx hx=>(by cases hx)⟩
 ·exact ⟨aS,λx hx=>(by cases hx)⟩
 ·exact ⟨nm30 (by rcases ho with h | h <;> simp [h]),λx hx=>(by cases hx)⟩
 ·exact ⟨nm30 fG,λx hx=>by rw [bS.1 hx];exact ih a fG (m3 a fG) ha⟩
 ·exact ⟨aS,λx hx=>by rw [bS.1 hx];exact ih a fG (m3 a fG) ha⟩
 ·refine ⟨aS,λx hx=>?_⟩;simp only [bM,List.not_mem_nil,or_false] at hx;rcases hx with rfl | rfl
  ·exact ih _ fG (m3 _ fG) ha
  ·exact ih _ fG (m3 _ fG) hb
theorem aL0 (f:Fm):Fm.all jJ f=true->Fm.all rN f=true->nsF f=true:=by
 induction f using Fm.ind with | _ op nm fd a b ex args ih
 intro hf hn;obtain ⟨hf,hfs⟩:=wJ hf;rw [kF,aE,bD] at hn;obtain ⟨hn,hns⟩:=hn;obtain ⟨n1,n2,n3⟩:=ML hn;unfold nsF;rw [kF,aE,bD];refine ⟨?_,λg hg=>ih g hg (hfs g hg) (hns g hg)⟩;have hg:=IB hf;rw [aE,aE,aB,aB,bD];show (nm.length<=30/\fd.length<=30)/\∀ x∈ex,nsE x=true;have l1:gL nm=true->nm.length<=30:=λk=>by have:=(nX k).2.2.2.2;omega
 have l2:gL fd=true->fd.length<=30:=λk=>by have:=(nX k).2.2.2.2;omega
 have z:∀ x∈([]:List Ex),nsE x=true:=λx hx=>(by cases hx);have nz:([]:Str).length<=30:=aS
 have z0:nsE zE=true:=aS
 cases hg with
 | tf=>exact ⟨⟨nz,nz⟩,z⟩
 | @cmp o x y h hx hy =>
  refine ⟨⟨nz,nz⟩,λe he=>?_⟩;rw [bS.1 he];have m3:=(GM (n3 _ (bS.2 rfl))).2.2;unfold nsE;rw [uR,nS,aE,aB,bD];refine ⟨nz,λe he=>?_⟩;simp only [bM,List.not_mem_nil,or_false] at he;rcases he with rfl | rfl
  ·exact OE _ (m3 _ fG) hx
  ·exact OE _ (m3 _ fG) hy
 | var=>exact ⟨⟨l1 (n1 rfl),l2 (n2 rfl)⟩,z⟩
 | has hx=>exact ⟨⟨l1 (n1 rfl),l2 (n2 rfl)⟩,λe he=>by rw [bS.1 he];exact OE _ (n3 _ fG) hx⟩
 | flg=>exact ⟨⟨l1 (n1 rfl),nz⟩,z⟩
 | arr hl hx =>
  refine ⟨⟨l1 (n1 rfl),l2 (n2 rfl)⟩,λe he=>?_⟩;rcases hx e he with rfl | h
  ·exact z0
  ·exact OE _ (n3 e he) h
 | un=>exact ⟨⟨nz,nz⟩,z⟩
 | win=>exact ⟨⟨nz,nz⟩,z⟩
 | amo h=>exact ⟨⟨l1 (n1 (by rcases h with rfl | rfl <;> rfl)),nz⟩,z⟩
 | cnt=>exact ⟨⟨l1 (n1 rfl),nz⟩,λe he=>by rw [bS.1 he];rfl⟩
 | bin=>exact ⟨⟨nz,nz⟩,z⟩
 | snc=>exact ⟨⟨nz,nz⟩,z⟩
theorem aD7 (h:gT f=0):(fmT f).length<=24000:=by
 obtain ⟨hc,_,hn,hf⟩:=JU h;have:=aL5 f (aL0 f hf hn);omega
theorem aZ9 (h:gT f=0):NK f=fmT f:=aK h
section
variable {l:Tks} {r r':Rq}
theorem bK8 (e:Ex):Ex.counts [e]=e.count:=by rw [Ex.counts,Ex.counts];rfl
theorem cT5 (e g:Ex):Ex.counts [e,g]=e.count+g.count:=by rw [Ex.counts,Ex.counts,Ex.counts];rfl
theorem bY4 (e:Fm):Fm.counts [e]=e.count:=by rw [Fm.counts,Fm.counts];rfl
theorem cP7 (e g:Fm):Fm.counts [e,g]=e.count+g.count:=by rw [Fm.counts,Fm.counts,Fm.counts];rfl
theorem cP3 (op:UInt8) (nm:Str) (n:Int64):Ex.count (.mk op nm n [])=1:=by rw [nF,Ex.counts]
theorem cP2 (op:UInt8) (nm fd:Str) (a b:Int64):Fm.count (.mk op nm fd a b [] [])=1:=by rw [iA,Ex.counts,Fm.counts]
end
def gdE (e:Ex):Bool:=decide (e.depth<=34) && Ex.all OD e
def gdN (f:Fm):Bool:=decide (f.op.toNat<=18) && decide (f.ex.length<=4) && decide (f.args.length<=3) && f.ex.all gdE
def gdF (f:Fm):Bool:=Fm.all gdN f
theorem JP {op:UInt8} {nm fd:Str} {b:Int64} {ex:List Ex} {args:List Fm} :gdF (.mk op nm fd a b ex args)=true↔(op.toNat<=18/\ex.length<=4/\args.length<=3/\∀ e∈ex,gdE e=true)/\∀ g∈args,gdF g=true:=by
 unfold gdF;rw [kF,aE,bD];unfold gdN;rw [aE,aE,aE,aB,aB,aB,bD];exact ⟨λh=>⟨⟨h.1.1.1.1,h.1.1.1.2,h.1.1.2,h.1.2⟩,h.2⟩,λh=>⟨⟨⟨⟨h.1.1,h.1.2.1⟩,h.1.2.2.1⟩,h.1.2.2.2⟩,h.2⟩⟩
theorem cO9 {e:Ex} (h1:e.depth<=9) (h2:blE 3 e=true):gdE e=true:=by
 unfold gdE;rw [aE,aB];exact ⟨aD,h2⟩
theorem bP5:jI prg 71=some none:=by kernel_rfl
theorem RA:dU prg 120 0=some 0:=by kernel_rfl
theorem QS:dU prg 191 1=some 1:=by kernel_rfl
variable {k:Nat}
theorem gdx {e:Ex} (h:e.depth<=k+1/\blE 3 e=true/\e.count<=TD k) (hk:k<=3):gdE e=true:=cO9 aD h.2.1
theorem aD8 {op:UInt8} {nm fd:Str} {b:Int64} {ex:List Ex} (ho:op.toNat<=18) (hl:ex.length<=4) (h:(∀ e∈ex,gdE e=true)):gdF (.mk op nm fd a b ex [])=true:=JP.2 ⟨⟨ho,hl,aS,h⟩,λg hg=>(by cases hg)⟩
theorem QJ:∀ e∈([]:List Ex),gdE e=true:=λe h=>(by cases h)
theorem cG2 {e:Ex} (h:gdE e=true):∀ x∈[e],gdE x=true:=λx hx=>by rw [bS.1 hx];exact h
theorem cA1 {op:UInt8} {nm fd:Str} {b:Int64} :Fm.count (.mk op nm fd a b [] [])<=20:=by rw [cP2];decide
variable {H:Hp}
theorem MS {op:UInt8} {nm fd:Str} (hn:nm.length<=1000000) (hf:fd.length<=1000000):Rep H (dFm .i64 (.mk op nm fd 0 0 [] [])) [.int .i64 op.toNat,bJ nm,bJ fd,.int .i64 0,.int .i64 0,cL,cL] :=
 xI (op:=op) (nm:=nm) (fd:=fd) (a:=0) (b:=0) (ex:=[]) (args:=[]) hn hf (Rep.empty (p:=none) (c:=0) aS) (Rep.empty (p:=none) (c:=0) aS)
variable {i:Nat}
theorem bX0 (hi:i<256):Rep H (dFm .i64 (.mk (UInt8.ofNat i) [] [] 0 0 [] [])) [iN i,dV,dV,.int .i64 0,.int .i64 0,cL,cL]:=by
 have:=MS (H:=H) (op:=UInt8.ofNat i) (nm:=[]) (fd:=[]) aS aS;rw [show (UInt8.ofNat i).toNat=i from dH hi] at this;exact this
variable {bb:Nat}
theorem aL6 {op:UInt8} {nm fd:Str} {e:Ex} {c1:List Value} (hn:nm.length<=1000000) (hf:fd.length<=1000000) (h1:Rep H (dEx .i64 e) c1) (hl:c1.length=4) (m:EA H bb 0 c1):Rep H (dFm .i64 (.mk op nm fd 0 0 [e] [])) [.int .i64 op.toNat,bJ nm,bJ fd,.int .i64 0,.int .i64 0,.slice (dI bb) 1 1,cL] :=
 xI (op:=op) (nm:=nm) (fd:=fd) (a:=0) (b:=0) (ex:=[e]) (args:=[]) hn hf (Rep.mk (n:=1) (c:=1) m (dT.single h1 hl) rfl (aY _) aS) (Rep.empty (p:=none) (c:=0) aS)
theorem GI (h:i<=18):(UInt8.ofNat i).toNat<=18:=by rw [dH (show i<256 by omega)];exact h
theorem bQ0 (H:Hp):Rep H (dEx .i64 zE) [.int .i64 0,dV,.int .i64 0,cL]:=kK (op:=0) (nm:=[]) (n:=0) (args:=[]) aS (Rep.empty (p:=none) (c:=0) aS)
def cU4:Prop:=∀ {H:Hp} {w0 W:World} {bs:List Res} {b:Nat} {ft:Ft} {pf pl pk:Option Addr} {cf cl ck:Nat} {z:Wz},(_ :  qN H ft pf cf pk ck)->(_ :  Wok H z)->∀ (k:Nat),k<=100->-100000<=z.lf - 20->z.lf<=100->St H w0 (.box b [bJ ft.nm,.slice pf ft.flags.length cf,.slice pl ft.links.length cl,.slice pk ft.comps.length ck,.slice z.tp z.l.length z.tc,.int .i64 z.lf,iN z.bd] 113::bs) W ->
 Calls prg 118 #[.pointer (some ⟨b,0,none⟩),iN k] W λe W'=>∃ x:Fm × List Value × Hp × Wz,(Rep x.2.2.1 (dFm .i64 x.1) x.2.1/\HUp w0 H x.2.2.1/\(gdF x.1=true/\x.1.count<=20)/\Wok x.2.2.1 x.2.2.2/\(z.lf - (20:Nat)<=x.2.2.2.lf/\x.2.2.2.lf<=z.lf)/\x.2.2.2.bd=z.bd)/\e=.returned (.agg x.2.1.toArray)/\St x.2.2.1 w0 (.box b [bJ ft.nm,.slice pf ft.flags.length cf,.slice pl ft.links.length cl,.slice pk ft.comps.length ck,.slice x.2.2.2.tp x.2.2.2.l.length x.2.2.2.tc,.int .i64 x.2.2.2.lf,iN x.2.2.2.bd] 113::bs) W'
set_option maxHeartbeats 4000000 in
theorem bN3:cU4:=by
 intro H w0 W bs b ft pf pl pk cf cl ck z E hz k hk hlo hhi s;have hT1:TD 1=3:=rfl;have hT2:TD 2=7:=rfl;refine iB Tryz.func118 rfl Tryz.ntmps118 rfl s ?_;refine .sr<|.al lH Z λb4=>.ns<|.mv Z<|.xs (X:=(Cp × Option Addr × Nat × Option Addr × Nat) × Wz) Z (λW s=>LI E hz  (s.p2_2 [1,0] Z)) λx2 hx2=>?_
 obtain ⟨⟨c2,p2,c2x,r2,d2x⟩,z2⟩:=x2;obtain ⟨⟨hc2,rc2,hv2,hs2⟩,hz2,e2l,e2b⟩:=hx2;dsimp only at hc2 rc2 hv2 hs2 hz2 e2l e2b|-;have G2:=E.good c2 hc2;refine .al BT Z λb5=>.sX .head Z Z BV Z<|.nt<|.sq<|.bk<|.sm Z<|.yw (.eql Z Z)<|.aq Z<|.cd Z (λh15=>?_) (λh15=>?_)
 ·refine .sm Z<|.xs (X:=Nat × Wz) Z (λW s=>rH E hz2 2 aS (s.p3_3 [1,0,2] Z)) λx3 hx3=>?_
  obtain ⟨k3,z3⟩:=x3;obtain ⟨hk3,hz3,e3l,e3b⟩:=hx3;dsimp only at hk3 hz3 e3l e3b|-;refine .yw (.add Z Z (c:=((1+k3:Nat):Int)) ((w6 aD).trans aD))<|.yw (.build Z (QA _))<|.sX iE Z Z gC Z<|.zR<|?_
  refine y8 Z (.cell Z dP iG rfl) λW s=>?_;exact ⟨(.mk (UInt8.ofNat (1+k3)) [] [] 0 0 [] [],[iN (1+k3),dV,dV,.int .i64 0,.int .i64 0,cL,cL],H,z3),⟨bX0 aD,.refl,⟨aD8 (GI aD) aS QJ,cA1⟩,hz3,⟨by dsimp only;omega,by dsimp only;omega⟩,by dsimp only;omega⟩,Z,s.p3_1 [0] rfl⟩
 refine .sm Z<|.yw (.eql Z Z)<|.aq Z<|.cd Z (λh22=>?_) (λh22=>?_)
 ·refine .sr<|.fA Z lL<|.lD Z bT Hm Z<|.yw (.build Z (EE _ _ _))<|.sX iE Z Z gC Z<|.zR<|?_
  refine y8 Z (.cell Z dP iG rfl) λW s=>?_;exact ⟨(.mk 4 c2.nm [98,48] 0 0 [] [],[.int .i64 4,bJ c2.nm,bJ [98,48],.int .i64 0,.int .i64 0,cL,cL],H,z2),⟨MS (op:=4) (aZ G2.nm aS) aS,.refl,⟨aD8 aS aS QJ,cA1⟩,hz2,⟨by dsimp only;omega,by dsimp only;omega⟩,by dsimp only;omega⟩,Z,s.p3_1 [1] rfl⟩
 refine .cu (X:=Bool) [(0,_),(1,_),(4,_),(5,_)] ⟨Z,Z,Z,Z,Jt⟩ (λq28=>[(28,.bool q28)]) (λq28=>H) (λq28=>(.box b5 [bJ c2.nm,.slice p2 c2.vars.length c2x,.slice r2 c2.vers.length d2x] 129::.box b4 [.int .i64 0,dV,dV,.int .i64 0,.int .i64 0,cL,cL] 27::.box b [bJ ft.nm,.slice pf ft.flags.length cf,.slice pl ft.links.length cl,.slice pk ft.comps.length ck,.slice z2.tp z2.l.length z2.tc,.int .i64 z2.lf,iN z2.bd] 113::bs)) (λq28=>True) ?_ λq28 hC=>?_
 ·
  refine .rg<|.mv Z<|.yw (.eql Z Z)<|.mv Z<|.b2 (λh31=>?_) (λh31=>?_)
  ·exact .gy (.loadW Z qY Hm Z)<|.gy (.xl Z (λW s=>JH H c2 G2 _ W rc2 s.agr))<|.pT Z<|.aq Z<|.me _ ⟨Z,Jt⟩ ⟨Z,Z,Z,Z,Jt⟩ (λ_ s=>(s.p3_3 [0,2,1] Z)) trivial
  exact .g2<|.pF Z<|.aq Z<|.me _ ⟨Z,Jt⟩ ⟨Z,Z,Z,Z,Jt⟩ (λ_ s=>(s.p3_3 [0,2,1] Z)) trivial
 have e28q:=hC;refine .cd Z (λh28=>?_) (λh28=>?_)
 ·refine .sq<|.fL 6 [(0,0),(1,0),(2,0),(3,3),(4,1),(5,0)]<|.fA Z lL<|.lD Z bT Hm Z<|.mv Z<|.x3 (X:=Ex × List Value × Hp × Wz) Z (λW s=>(CR 1 1 Z) E hz2 aD aD (s.p3_3 [2,0,1] Z)) (λ_ _=>(.dn<|.yv (.load Z bT cU Z)<|.yv (.fieldAddr Z lL)<|.nl)) λy4 hy4=>?_
  obtain ⟨t4,cs4,H4,z4⟩:=y4;obtain ⟨rt4,u4,g4,hz4,l4,b4d⟩:=hy4;dsimp only at rt4 u4 g4 hz4 l4 b4d|-;obtain ⟨w4a,w4b,w4c,w4d,rfl,_⟩:=ex4 rt4;have E4:=qN.up E u4.up;refine .blF Z (gH _ _ _ _) Z λb39 H5 u5 m5=>.yw (.build Z (KK _ _ _ _ _ _))<|.fn (tl:=[_]) Z<|.sX iE Z Z gC Z<|.zR<|?_
  refine y8 Z (.cell Z dP iG rfl) λW s=>?_;exact ⟨(.mk 5 c2.nm [116,48] 0 0 [t4] [],[.int .i64 5,bJ c2.nm,bJ [116,48],.int .i64 0,.int .i64 0,.slice (dI b39) 1 1,cL],H5,z4),⟨aL6 (op:=5) (aZ G2.nm aS) aS (rt4.up u5.up) rfl m5,u4.trans u5,⟨aD8 aS (by decide:1<=4) (cG2 (gdx g4 aS)),by rw [iA,bK8,Fm.counts];omega⟩,hz4.up u5.up,⟨by dsimp only;omega,by dsimp only;omega⟩,by dsimp only;omega⟩,Z,s.p3_1 [0] rfl⟩
 refine .cu (X:=Bool) [(0,_),(1,_),(4,_),(5,_)] ⟨Z,Z,Z,Z,Jt⟩ (λq41=>[(41,.bool q41)]) (λq41=>H) (λq41=>(.box b5 [bJ c2.nm,.slice p2 c2.vars.length c2x,.slice r2 c2.vers.length d2x] 129::.box b4 [.int .i64 0,dV,dV,.int .i64 0,.int .i64 0,cL,cL] 27::.box b [bJ ft.nm,.slice pf ft.flags.length cf,.slice pl ft.links.length cl,.slice pk ft.comps.length ck,.slice z2.tp z2.l.length z2.tc,.int .i64 z2.lf,iN z2.bd] 113::bs)) (λq41=>q41=true->0<ft.flags.length) ?_ λq41 hC=>?_
 ·
  refine .rg<|.mv Z<|.yw (.eql Z Z)<|.mv Z<|.b2 (λh44=>?_) (λh44=>?_)
  ·exact .gy (.move Z)<|.gy (.nilCheck Z)<|.gy (.fieldAddr Z oW)<|.gy (.fieldAddr Z qF)<|.gy (.load Z AZ iG Z)<|.gy (.lenSl NA Z)<|.gy (.gtr Z Z)<|.pT Z<|.aq Z<|.me _ ⟨Z,Jt⟩ ⟨Z,Z,Z,Z,Jt⟩ (λ_ s=>s) (λh=>by first | (cases h;done) | (have h2:=aI h;omega))
  exact .g4<|.g3<|.pF Z<|.aq Z<|.me _ ⟨Z,Jt⟩ ⟨Z,Z,Z,Z,Jt⟩ (λ_ s=>s) (λh=>by first | (cases h;done) | (have h2:=aI h;omega))
 have e41q:=hC;refine .cd Z (λh41=>?_) (λh41=>?_)
 ·have hfl:=e41q h41;refine .sq<|.fL 17 [(0,0),(1,0),(2,0),(3,0),(4,0),(5,0),(6,0),(7,0),(8,0),(9,0),(10,0),(11,0),(12,3),(13,0),(14,0),(15,0),(16,0)]<|.mv Z<|.nC Z<|.fA Z oW<|.fA Z qF<|.lD Z AZ iG Z<|.mv Z<|.mv Z<|.nC Z<|.fA Z oW<|.fA Z qF<|.lD Z AZ iG Z<|.yw (.lenSl NA Z)<|.x3 (X:=Nat × Wz) Z (λW s=>rH E hz2 ft.flags.length hfl (s.p3_3 [2,0,1] Z)) (λ_ _=>(.d4<|.d3<|.yv (.load Z AZ Hm Z)<|.yv (.fieldAddr Z qF)<|.yv (.fieldAddr Z oW)<|.yv (.nilCheck Z)<|.yv (.move Z)<|.nl)) λx3 hx3=>?_
  obtain ⟨k3,z3⟩:=x3;obtain ⟨hk3,hz3,e3l,e3b⟩:=hx3;dsimp only at hk3 hz3 e3l e3b|-;obtain ⟨bE,oE,cE,hpE,rE,lE,mE⟩:=E.flags.elem (eR (f:=dFg) hk3);cases hpE;obtain ⟨rfl,hfn⟩:=bX5 rE;refine .yw (.indexSl NA Z Z (i:=k3) Z aD (q:=oE+k3 * 2) aD)<|.fA Z RA<|.yw (.loadM Z bT mE (k:=0) Z Z)<|.yw (.build Z (WD _ _))<|.fn (tl:=[_]) Z<|.sX iE Z Z gC Z<|.zR<|?_
  refine y8 Z (.cell Z dP iG rfl) λW s=>?_;exact ⟨(.mk 6 (ft.flags[k3]).nm [] 0 0 [] [],[.int .i64 6,bJ (ft.flags[k3]).nm,dV,.int .i64 0,.int .i64 0,cL,cL],H,z3),⟨MS (op:=6) (fd:=[]) hfn aS,.refl,⟨aD8 aS aS QJ,cA1⟩,hz3,⟨by dsimp only;omega,by dsimp only;omega⟩,by dsimp only;omega⟩,Z,s.p3_1 [0] rfl⟩
 refine .cu (X:=Bool) [(0,_),(4,_),(5,_)] ⟨Z,Z,Z,Jt⟩ (λq70=>[(70,.bool q70)]) (λq70=>H) (λq70=>(.box b5 [bJ c2.nm,.slice p2 c2.vars.length c2x,.slice r2 c2.vers.length d2x] 129::.box b4 [.int .i64 0,dV,dV,.int .i64 0,.int .i64 0,cL,cL] 27::.box b [bJ ft.nm,.slice pf ft.flags.length cf,.slice pl ft.links.length cl,.slice pk ft.comps.length ck,.slice z2.tp z2.l.length z2.tc,.int .i64 z2.lf,iN z2.bd] 113::bs)) (λq70=>True) ?_ λq70 hC=>?_
 ·
  refine .rg<|.mv Z<|.yw (.eql Z Z)<|.mv Z<|.b2 (λh73=>?_) (λh73=>?_)
  ·exact .g2<|.pT Z<|.aq Z<|.me _ ⟨Z,Jt⟩ ⟨Z,Z,Z,Jt⟩ (λ_ s=>s) trivial
  exact .gy (.move Z)<|.gy (.eql Z Z)<|.pF Z<|.aq Z<|.me _ ⟨Z,Jt⟩ ⟨Z,Z,Z,Jt⟩ (λ_ s=>s) trivial
 have e70q:=hC;refine .cd Z (λh70=>?_) (λh70=>?_)
 ·refine .sr<|.yw (.loadW Z qY Hm Z)<|.xt (X:=Value) Z (λW s=>VA H c2 G2 _ W rc2 s.agr) λv5 H5 hv5 u5=>?_
  obtain ⟨l5,hs5,hl5⟩:=hv5;obtain ⟨p5,c5,e5,_⟩:=hs5.sl;simp only [bV,dL] at e5;subst e5;rw [aP] at hs5|-;have E5:=qN.up E u5.up;have hz5:=hz2.up u5.up;have rc5:=rc2.up u5.up;refine .a Z Z<|.ns<|.mv Z<|.mv Z<|.mv Z<|.yw (.lenSl fD Z)<|.xs (X:=Nat × Wz) Z (λW s=>rH E5 hz5 l5.length hl5.1 (s.p3_3 [2,0,1] Z)) λx3 hx3=>?_
  obtain ⟨k3,z3⟩:=x3;obtain ⟨hk3,hz3,e3l,e3b⟩:=hx3;dsimp only at hk3 hz3 e3l e3b|-;obtain ⟨bE,oE,cE,hpE,rE,lE,mE⟩:=hs5.elem (eR (f:=zU) hk3);cases hpE;obtain rfl:=CV rE;have hnk:(l5[k3]).length<=1000000:=okS.1 (by unfold zU Rep at rE;exact rE.2.2);refine .yw (.indexSl fD Z Z (i:=k3) Z aD (q:=oE+k3 * 1) aD)<|.yw (.loadM Z bT mE (k:=0) Z Z)<|.a Z Z<|.ns<|.yw (.loadW Z qY cU Z)<|.fA Z kH<|.lD Z uA cU Z<|.yw (.lenSl EB Z)<|.mv Z<|.xt (X:=(Str × Option Addr × Nat × Nat × Option Addr × Nat × Nat) × Bool) Z (λW s=>bJ1 H5 c2 G2 c2.vers.length (by have:=G2.vers.1;omega) (l5[k3]) _ W rc5 s.agr) λx7 H7 hp7 u7=>?_
  obtain ⟨⟨xn,xp,xl,xc,xq,xm,xd⟩,xb⟩:=x7;dsimp only at hp7|-;have E7:=qN.up E5 u7.up;have hz7:=hz3.up u7.up;refine .mv Z<|.yw (.extract Z Z)<|.yw (.extract Z Z)<|.al yO Z λb8=>.sX .head Z Z vO Z<|.a Z Z<|.ns<|.fA Z lL<|.lD Z bT iG Z<|.mv Z<|.yw (.build Z (EE _ _ _))<|.al lH Z λb10=>.sX .head Z Z gC Z<|.nt<|.sq<|.sq<|?_
  refine Sx.row0 83 4 ?_;refine .rg<|.fA Z QS<|.lD Z bP5 iG Z<|.yw (.lenSl fD Z)<|.mv Z<|.nt<|.bk<|.lp (X:=Nat × Hp × Value × List Ex × List Value × Wz) [(0,_),(4,_),(10,_),(101,_)] ⟨Z,Z,Z,Z,Jt⟩ (_::_::_::bs) (λz'=>[(102,iN z'.1)]) (λz'=>z'.2.1) (λz'=>[.row 83 4 z'.2.2.1 z'.2.2.2.1.length z'.2.2.2.2.1,.box b10 [.int .i64 7,bJ c2.nm,bJ (l5[k3]),.int .i64 0,.int .i64 0,z'.2.2.1,cL] 27,.box b [bJ ft.nm,.slice pf ft.flags.length cf,.slice pl ft.links.length cl,.slice pk ft.comps.length ck,.slice z'.2.2.2.2.2.tp z'.2.2.2.2.2.l.length z'.2.2.2.2.2.tc,.int .i64 z'.2.2.2.2.2.lf,iN z'.2.2.2.2.2.bd] 113]) (λz'=>(z'.1<=xl/\z'.2.2.2.1.length=z'.1)/\HUp w0 H7 z'.2.1/\dT z'.2.1 4 (z'.2.2.2.1.map (dEx .i64)) z'.2.2.2.2.1/\(∀ e∈z'.2.2.2.1,gdE e=true)/\Ex.counts z'.2.2.2.1<=3 * z'.1/\Wok z'.2.1 z'.2.2.2.2.2/\(z3.lf - 3 * (z'.1:Nat)<=z'.2.2.2.2.2.lf/\z'.2.2.2.2.2.lf<=z3.lf)/\z'.2.2.2.2.2.bd=z3.bd) (λz'=>xl - z'.1) (0,H7,cL,[],[],z3) (λ_ s=>(s.p6_6 [0,1,3,2,4,5] Z)) ⟨Z,Jt⟩ ⟨⟨aN _,Z⟩,.refl,dT.nil,QJ,aY _,hz7,⟨by dsimp only;omega,by dsimp only;omega⟩,Z⟩ λz' hC=>?_
  obtain ⟨i,Hq,rv,ex,xs,zq⟩:=z';obtain ⟨⟨hi0,hil⟩,uq,hz',hge,hec,hzq,hlq,hbq⟩:=hC;dsimp only at hi0 hil uq hz' hge hec hzq hlq hbq|-;refine At.ra Hm λpr cr er=>?_;subst er;have Eq:=qN.up E7 uq.up;refine .sr<|.yw (.lss Z Z)<|.nt<|.sq<|.ce Z (λh103=>?_) (λh103=>?_)
  ·have hi:i<xl:=aD
   refine .sk<|.tN<|.sq<|.bk<|.sm Z<|.xs (X:=Nat × Wz) Z (λW s=>rH Eq hzq 3 aS (s.p6_6 [2,0,1,3,4,5] Z)) λxr hxr=>?_
   obtain ⟨kr,zr⟩:=xr;obtain ⟨hkr,hzr,erl,erb⟩:=hxr;dsimp only at hkr hzr erl erb|-;refine .yw (.gtr Z Z)<|.nt<|.cd Z (λh106=>?_) (λh106=>?_)
   ·refine .sr<|.fA Z eZ<|.lD Z fM iG Z<|.yw (.build Z bP4)<|.bl Z (gH _ _ _ _) Z λb110=>.ap (news:=[.int .i64 0,dV,.int .i64 0,cL]) AU Z (λ_=>iE) Z (.box Hm z0) Z (by simp [Value.oneCell',bJ]) (by simp [maxLen];omega) aD Z λr111 _=>?_
    rw [show ex.length+1=(ex++[zE]).length by simp];refine At.ra iG λp111x c111x e111x=>?_;subst e111x;exact .fA Z eZ<|.st lJ Z Z KG Z (nb Z) Z<|.nt<|.rg<|.mv Z<|.nC Z<|.fA Z kI<|.lD Z bQ cU Z<|.yw (.sub Z Z (c:=zr.lf - 1) (w6 aD))<|.nC Z<|.fA Z kI<|.st iJ Z Z iM Z (nb Z) Z<|.nl<|.bN<|.tN<|.rg<|.yw (.add Z Z w7)<|.mv Z<|.nt<|.ag (x:=(i,Hq,.slice pr ex.length cr,ex,xs,zq)) (i+1,Hq,.slice p111x (ex++[zE]).length c111x,ex++[zE],xs++[.int .i64 0,.string ⟨#[]⟩,.int .i64 0,.slice none 0 0],⟨zr.l,zr.tp,zr.tc,zr.lf - 1,zr.bd⟩) ⟨Z,Jt⟩ ⟨Z,Z,Z,Z,Jt⟩ (λ_ s=>(s.p7_6 [2,3,1,4,5,6] Z)) ⟨⟨by dsimp only;omega,by dsimp only;rw [aC];simp only [aF,aH];omega⟩,uq,(by rw [bI];exact hz'.snoc (bQ0 Hq) Z),(λe he=>by rcases cJ.1 he with h | h;exact hge e h;rw [bS.1 h];exact rfl),(by dsimp only;rw [oU,bK8];have h3:=(show zE.count<=3 by decide);omega),⟨hzr.rep,hzr.bd⟩,⟨by dsimp only;omega,by dsimp only;omega⟩,by dsimp only;omega⟩ (by dsimp only;omega)
   refine .fL 5 [(0,0),(1,0),(2,0),(3,3),(4,1)]<|.fA Z eZ<|.lD Z fM iG Z<|.mv Z<|.x3 (X:=Ex × List Value × Hp × Wz) Z (λW s=>(CR 1 1 Z) Eq hzr aD aD (s.p6_6 [0,1,2,3,4,5] Z)) (λ_ _=>(.dn<|.yv (.load Z fM iG Z)<|.yv (.fieldAddr Z eZ)<|.nl)) λy9 hy9=>?_
   obtain ⟨t9,cs9,H9,z9⟩:=y9;obtain ⟨rt9,u9,g9,hz9,l9,b9d⟩:=hy9;dsimp only at rt9 u9 g9 hz9 l9 b9d|-;obtain ⟨w9a,w9b,w9c,w9d,rfl,_⟩:=ex4 rt9;have E9:=qN.up Eq u9.up;refine .bl Z (gH _ _ _ _) Z λb124=>.fn (tl:=[_,_,_]) Z<|.ap (news:=[w9a,w9b,w9c,w9d]) AU Z (λ_=>iE) Z (.box Hm z0) Z (Rep.one rt9) (by simp [maxLen];omega) aD Z λr125 _=>?_
   rw [show ex.length+1=(ex++[t9]).length by simp];refine At.ra iG λp125x c125x e125x=>?_;subst e125x;exact .fA Z eZ<|.st lJ Z Z KG Z (nb Z) Z<|.nl<|.bN<|.tN<|.rg<|.yw (.add Z Z w7)<|.mv Z<|.nt<|.ag (x:=(i,Hq,.slice pr ex.length cr,ex,xs,zq)) (i+1,H9,.slice p125x (ex++[t9]).length c125x,ex++[t9],xs++[w9a,w9b,w9c,w9d],z9) ⟨Z,Jt⟩ ⟨Z,Z,Z,Z,Jt⟩ (λ_ s=>(s.p7_6 [2,3,1,4,5,6] Z)) ⟨⟨by dsimp only;omega,by dsimp only;rw [aC];simp only [aF,aH];omega⟩,(uq.trans u9),(by rw [bI];exact (hz'.up u9.up).snoc rt9 Z),(λe he=>by rcases cJ.1 he with h | h;exact hge e h;rw [bS.1 h];exact (gdx g9 aS)),(by dsimp only;rw [oU,bK8];have h3:=g9.2.2;omega),hz9,⟨by dsimp only;omega,by dsimp only;omega⟩,by dsimp only;omega⟩ (by dsimp only;omega)
  obtain rfl:i=xl:=aD
  refine .ex<|.eb<|.sr<|.yw (.loadW Z dP cU Z)<|.sX cD6 Z Z gC Z<|.zR<|?_
  refine Sx.reSt (λW s=>s.p6_3 [0,5,2] rfl) ?_;refine iI (ds:=ex.map (dEx .i64)) (aP ..) hz' λH6 p6 c6 u6 hr6 hs6=>?_;refine y8 Z (.cell Z dP Hm rfl) λW s=>?_;exact ⟨(.mk 7 c2.nm (l5[k3]) 0 0 ex [],[.int .i64 7,bJ c2.nm,bJ (l5[k3]),.int .i64 0,.int .i64 0,.slice pr ex.length cr,cL],H6,zq),⟨xI (op:=7) (a:=0) (b:=0) (args:=[]) (aZ G2.nm aS) hnk hs6 (Rep.empty (p:=none) (c:=0) aS),((u5.trans u7).trans uq).trans u6,⟨aD8 aS aD hge,by rw [iA,Fm.counts];omega⟩,hzq.up u6.up,⟨by dsimp only;omega,by dsimp only;omega⟩,by dsimp only;omega⟩,Z,s.p2_1 [1] rfl⟩
 refine .sk<|.bN<|.tN<|.sm Z<|.xs (X:=Nat × Wz) Z (λW s=>rH E hz2 6 aS (s.p3_3 [2,0,1] Z)) λx3 hx3=>?_
 obtain ⟨k3,z3⟩:=x3;obtain ⟨hk3,hz3,e3l,e3b⟩:=hx3;dsimp only at hk3 hz3 e3l e3b|-;refine .yw (.add Z Z (c:=((16+k3:Nat):Int)) ((w6 aD).trans aD))<|.a Z Z<|.ns<|.mv Z<|.nC Z<|.fA Z kI<|.lD Z bQ Hm Z<|.yw (.sub Z Z (c:=z3.lf - 1) (w6 aD))<|.nC Z<|.fA Z kI<|.st .head Z Z iM Z (nb Z) Z<|.nt<|.sq<|?_
 have hz0:Wok H (⟨z3.l,z3.tp,z3.tc,z3.lf - 1,z3.bd⟩:Wz):=⟨hz3.rep,hz3.bd⟩;refine .rg<|.mv Z<|.xs (X:=Ex × List Value × Hp × Wz) Z (λW s=>(CR 2 0 Z) E hz0 (by dsimp only;omega) (by dsimp only;omega) (s.p3_3 [0,1,2] Z)) λy4 hy4=>?_
 obtain ⟨t4,cs4,H4,z4⟩:=y4;obtain ⟨rt4,u4,g4,hz4,l4,b4d⟩:=hy4;dsimp only at rt4 u4 g4 hz4 l4 b4d|-;obtain ⟨w4a,w4b,w4c,w4d,rfl,_⟩:=ex4 rt4;have E4:=qN.up E u4.up;refine .al gX Z λb12=>.sW .head Z Z eD (Rep.one rt4) Z<|.nt<|.sq<|.fL 8 [(0,0),(1,0),(2,0),(3,3),(4,1),(5,0),(6,1),(7,0)]<|.mv Z<|.yw (.loadW Z cY Hm Z)<|.mv Z<|.x3 (X:=Ex × List Value × Hp × Wz) Z (λW s=>(CR 2 0 Z) E4 hz4 (by first | omega | (dsimp only at l4;omega)) (by first | omega | (dsimp only at l4;omega)) (s.p4_4 [1,0,2,3] Z)) (λ_ _=>(.dn<|.yv (.loadW Z cY cU Z)<|.yv (.move Z)<|.nl)) λy6 hy6=>?_
 obtain ⟨t6,cs6,H6,z6⟩:=y6;obtain ⟨rt6,u6,g6,hz6,l6,b6d⟩:=hy6;dsimp only at rt6 u6 g6 hz6 l6 b6d|-;obtain ⟨w6a,w6b,w6c,w6d,rfl,_⟩:=ex4 rt6;have E6:=qN.up E4 u6.up;refine .blF Z (vP _ _ _ _ _ _ _ _) Z λb145 H7 u7 m7=>.yw (.build Z (oM _ _ _ _))<|.blF Z (gH _ _ _ _) Z λb147 H8 u8 m8=>.yw (.build Z (WC _ _ _ _))<|.fn (tl:=[_]) Z<|.sX lJ Z Z gC Z<|.nt<|.rt<|?_
 refine y8 Z (.cell Z dP qL rfl) λW s=>?_;exact ⟨(.mk 3 [] [] 0 0 [.mk (UInt8.ofNat (16+k3)) [] 0 [t4,t6]] [],[.int .i64 3,dV,dV,.int .i64 0,.int .i64 0,.slice (dI b147) 1 1,cL],H8,z6),⟨aL6 (op:=3) (nm:=[]) (fd:=[]) aS aS ((aN5 (rt4.up (u6.trans u7).up) rfl (rt6.up u7.up) rfl m7 aD).up u8.up) rfl m8,((u4.trans u6).trans u7).trans u8,⟨aD8 aS (by decide:1<=4) (cG2 (gdx (lf2 (k:=2) g4 g6) aS)),by rw [iA,bK8,nF,cT5,Fm.counts];omega⟩,(hz6.up u7.up).up u8.up,⟨by dsimp only;omega,by dsimp only;omega⟩,by dsimp only;omega⟩,Z,s.p4_1 [0] rfl⟩
theorem yX (x0:Int) (x1:ByteArray) (x3:Int):eX prg 27 [(0,.int .i64 x0),(1,.string x1),(3,.int .i64 x3)]=some [.int .i64 x0,.string x1,dV,.int .i64 x3,.int .i64 0,cL,cL]:=by kernel_rfl
end Go.Proofs.YtidclioghdbphaaGreatDoor
