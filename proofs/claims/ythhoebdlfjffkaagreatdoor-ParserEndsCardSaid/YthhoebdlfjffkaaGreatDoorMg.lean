/- Texts of the proof, one behind the other. -/
import Derived.Test.YthhoebdlfjffkaaGreatDoorMf
set_option linter.all false
set_option maxRecDepth 100000
namespace Go.Proofs.YthhoebdlfjffkaaGreatDoor
section
variable {α β:Type}
structure PE (N:Nat) (p:Pz α):Prop where
 pf:Pf N p
 en:En p
theorem PE.le {N M:Nat} {p:Pz α} (h:PE N p) (k:M≤N):PE M p:=⟨h.pf.le k,h.en⟩
theorem PE.pure {N:Nat} (a:α):PE N (aO a):=⟨.pure a,.pure a⟩
theorem PE.bind {N:Nat} {p:Pz α} {f:α→Pz β} (hp:PE N p) (hf:∀ a,PE N (f a)):PE N (aF p f):=⟨.bind hp.pf (fun a=>(hf a).pf) (fun a=>(hf a).en),.bind hp.en fun a=>(hf a).en⟩
theorem PE.nd {N:Nat} (w:Str):PE N (gNd w):=⟨.nd w,.nd w⟩
theorem PE.nn {N:Nat} (w:Str):PE N (gNn w):=⟨.nn w,.nn w⟩
theorem PE.nm {N:Nat}:PE N gNm:=⟨.nm,.nm⟩
theorem PE.nu {N:Nat}:PE N gNu:=⟨.nu,.nu⟩
theorem PE.alt {N:Nat} {w:Str} {p q:Pz α} (hp:∀ M,M+1≤N→PE M p) (hq:PE N q):PE N (cM w p q):=⟨.alt (fun M h=>(hp M h).pf) hq.pf hq.en,.alt hq.en⟩
theorem PE.many {N:Nat} {w:Str} {p:Pz α} (hs:Shr p) (hp:∀ M,M+1≤N→PE M p):PE N (dC w p):=⟨.many hs N fun M h=>(hp M h).pf,.many⟩
theorem PE.list {N:Nat} {p:Pz α} (hs:Shr p) (hp:∀ M,M≤N→PE M p):PE N (dY p):=.bind (.nd _) fun _=>.alt (fun M _=>.pure _) (.bind (hp N (Nat.le_refl _)) fun _=>.bind (.many hs fun M h=>hp M (by omega)) fun _=>.bind (.nd _) fun _=>.pure _)
end
theorem CK (lv:Nat):opAt lv []=none:=by
 have h:(nF lv).find? (fun x=>isT x.1 [])=none:=List.find?_eq_none.2 (fun x _=>Bool.false_ne_true);unfold opAt;rw [h]
 rfl
theorem En.l (lv:Nat) (a:Ex):En (gL lv a):=.inr ⟨a,lB (CK lv)⟩
theorem En.nam:En wW:=.bind .nm fun _=>.alt (.pure _)
theorem En.prim:En dX:=.alt<|.alt<|.alt<|.alt<|.alt<|.alt En.nam
theorem En.x:∀ (d lv:Nat),lv+d=5→En (gX lv)
 | 0,lv,h=>by
  obtain rfl:lv=5:=by omega
  rw [wC,zH];exact .alt (.alt En.prim)
 | d+1,lv,h=>by
  rw [rX (by omega)];exact .bind (En.x d (lv+1) (by omega)) fun a=>En.l lv a
theorem Shr.l (lv:Nat) (a:Ex):Shr (gL lv a):=fun r b r' e=>(nO _).2 _ _ _ _ _ e
theorem Pf.xl:∀ (N:Nat),(∀ lv,lv≤5→Pf N (gX lv))∧(∀ lv,lv≤4→∀ a,Pf N (gL lv a))
 | 0=>⟨fun lv _=>.zero (Shs.gx lv).le,fun lv _ a=>.zero (Shr.l lv a)⟩
 | N+1=>by
  obtain ⟨ih1,ih2⟩:=Pf.xl N;have x:∀ lv,lv≤5→∀ M,M+1≤N+1→PE M (gX lv):=fun lv h M hM=>⟨(ih1 lv h).le (by omega),En.x (5 - lv) lv (by omega)⟩
  have hk:∀ lv op a b,lv≤4→∀ M,M+1≤N+1→PE M (gK lv op a b):=fun lv op a b h M hM=>by
   unfold gK
   split
   ·exact .pure _
   ·exact ⟨(ih2 lv h _).le (by omega),En.l lv _⟩
  have hl:∀ lv,lv≤4→∀ a,Pf (N+1) (gL lv a):=fun lv h a=>by
   refine .choice (c:=fun r=>(opAt lv r).isSome) (p:=fun t=>match opAt lv [t] with | some op=>aF (gX (lv+1)) (gK lv op a) | none=>aO a) (q:=aO a) ?_ (fun _ _ _=>rfl) ?_ ?_ ?_ (.pure _) (.pure _)
   ·show (opAt lv []).isSome=false;rw [CK]
    rfl
   ·intro t r e;obtain ⟨op,e⟩:=Option.isSome_iff_exists.1 e;have e2:opAt lv [t]=some op:=e;simp only [e2];show pL lv a (t::r)=_;rw [zL h e];refine Rs.bind_congr rfl fun b q _=>?_;unfold gK
    split <;> rfl
   ·intro r e
    have e2:opAt lv r=none:=by
     cases k:opAt lv r with
     | none=>rfl
     | some op=>rw [k] at e;cases e
    exact lB e2
   ·intro t M hM;show Pf M (match opAt lv [t] with | some op=>aF (gX (lv+1)) (gK lv op a) | none=>aO a);cases opAt lv [t] with
    | none=>exact .pure _
    | some op=>exact (PE.bind (x (lv+1) (by omega) M hM) fun b=>hk lv op a b h M hM).pf
  have key:∀ op nm M,M+1≤N+1→PE M (DF op nm):=fun op nm M hM=>.bind (x 0 (by omega) M hM) fun _=>.bind (.nd _) fun _=>.pure _;have nam:PE (N+1) wW:=.bind .nm fun s=>.alt (fun M hM=>key 6 s M hM) (.pure _);have last:PE (N+1) kB:=⟨.look (c:=DA) (p:=OA) (q:=wW) rfl (fun _ _ _=>rfl) (fun r h=>by unfold kB;rw [if_pos h]) (fun r h=>by unfold kB;rw [if_neg (by rw [h];decide)]) (PE.bind .nu fun _=>.pure _).pf nam.pf nam.en,nam.en⟩;have prim:PE (N+1) dX:=.alt (fun _ _=>.pure _)<|.alt (fun _ _=>.pure _)<|.alt (fun _ _=>.pure _)<|.alt (fun _ _=>.bind .nm fun _=>.pure _)<|.alt (fun M hM=>.bind .nm fun s=>.bind (.nd _) fun _=>key 7 s M hM)<|.alt (fun M hM=>.bind (x 0 (by omega) M hM) fun _=>.bind (.nd _) fun _=>.pure _) last
  have h5:PE (N+1) (gX 5):=by
   rw [wC,zH];exact .alt (fun M hM=>.bind (x 5 (by omega) M hM) fun _=>.pure _)<|.alt (fun M hM=>.bind (x 5 (by omega) M hM) fun _=>.pure _) prim
  have all:∀ d lv,lv+d=5→PE (N+1) (gX lv):=fun d=>by
   induction d with
   | zero =>
    intro lv h;obtain rfl:lv=5:=by omega
    exact h5
   | succ d ih =>
    intro lv h;rw [rX (by omega)];exact .bind (ih (lv+1) (by omega)) fun a=>⟨hl lv (by omega) a,En.l lv a⟩
  exact ⟨fun lv h=>(all (5 - lv) lv (by omega)).pf,hl⟩
theorem PE.ex {N:Nat}:PE N gEx:=⟨(Pf.xl N).1 0 (by omega),En.x 5 0 rfl⟩
theorem PE.st {N:Nat} {b:Pz (List Sm)} (hb:∀ M,M+1≤N→PE M b):PE N (gSt b):=by
 have blk:∀ M,M+1≤N→PE M (iF b):=fun M h=>.bind (.nd _) fun _=>.bind (hb M h) fun _=>.bind (.nd _) fun _=>.pure _;have els:∀ M,M+1≤N→PE M (qY b):=fun M h=>.alt (fun M' h'=>blk M' (by omega)) (.pure _);have oth:∀ M,M+1≤N→PE M (jX b):=fun M h=>.alt (fun M' h'=>blk M' (by omega)) (.bind (.nd _) fun _=>.pure _);have lst:∀ M,PE M (dY gEx):=fun M=>.list Shs.ex.le fun _ _=>.ex
 exact .alt (fun M h=>.bind .ex fun _=>.bind (blk M h) fun _=>.bind (els M h) fun _=>.pure _)<|.alt (fun M h=>.bind .ex fun _=>.bind (blk M h) fun _=>.pure _)<|.alt (fun M h=>.bind .ex fun _=>.bind (.nd _) fun _=>.bind .ex fun _=>.bind (oth M h) fun _=>.pure _)<|.alt (fun M h=>.bind .nm fun _=>.bind (.nd _) fun _=>.bind .ex fun _=>.bind (oth M h) fun _=>.pure _)<|.alt (fun M h=>.bind .nm fun _=>.bind (.nd _) fun _=>.bind .nm fun _=>.bind (lst M) fun _=>.bind (.nd _) fun _=>.pure _)<|.alt (fun M h=>.bind .ex fun _=>.bind (.nd _) fun _=>.bind .nm fun _=>.bind (lst M) fun _=>.bind (.nd _) fun _=>.pure _)<|.alt (fun M h=>.bind (.nd _) fun _=>.pure _)<|.alt (fun M h=>.bind .nm fun _=>.bind (.nd _) fun _=>.bind .ex fun _=>.bind (.nd _) fun _=>.bind (.nd _) fun _=>.pure _)<|.bind .nm fun _=>.alt (fun M h=>.bind .ex fun _=>.bind (.nd _) fun _=>.bind (.nd _) fun _=>.bind .ex fun _=>.bind (.nd _) fun _=>.pure _)
  (.bind (.nd _) fun _=>.bind .ex fun _=>.bind (.nd _) fun _=>.pure _)
theorem En.b:En gB:=.inl (by rw [wD];rfl)
theorem PE.b:∀ N,PE N gB
 | 0=>⟨.zero Shr.b,En.b⟩
 | N+1=>by
  have st:PE (N+1) (gSt gB):=.st fun M h=>(PE.b N).le (by omega);have rest:∀ a:Sm,PE N (aF gB fun l=>aO (a::l)):=fun a=>.bind (PE.b N) fun _=>.pure _
  refine ⟨.look (c:=isT [125]) (p:=aO []) (q:=aF (gSt gB) fun s=>aF gB fun l=>aO (s::l)) rfl (fun _ _ _=>rfl) (fun r h=>?_) (fun r h=>?_) (.pure _)
   (.bindS st.pf (fun r a q hr e=>?_) (fun a=>(rest a).pf) (fun a=>(rest a).en)) (.bind st.en fun a=>(rest a).en),En.b⟩
  ·rw [wD,if_pos h]
   rfl
  ·rw [wD,if_neg (by rw [h];decide)]
   rfl
  ·have:=Shs.st Shr.b _ _ _ e;omega
theorem PE.blk {N:Nat}:PE N (iF gB):=.bind (.nd _) fun _=>.bind (.b N) fun _=>.bind (.nd _) fun _=>.pure _
theorem PE.tr {N:Nat}:PE N gTr:=.alt (fun _ _=>.pure _) (.bind (.nd _) fun _=>.pure _)
theorem PE.fg {N:Nat}:PE N gFg:=.bind .nm fun _=>.bind (.nd _) fun _=>.bind .tr fun _=>.bind (.nd _) fun _=>.pure _
theorem PE.lk {N:Nat}:PE N gLk:=.bind .nm fun _=>.bind (.nd _) fun _=>.bind .nm fun _=>.bind (.nd _) fun _=>.bind .nu fun _=>.bind (.nd _) fun _=>.pure _
theorem PE.int {N:Nat}:PE N qX:=.alt (fun _ _=>.bind .nu fun _=>.pure _) .nu
theorem PE.vr {N:Nat}:PE N gVr:=.bind .nm fun _=>.bind (.nd _) fun _=>.alt (fun _ _=>.bind (.nd _) fun _=>.bind .int fun _=>.bind (.nd _) fun _=>.pure _)<|.alt (fun _ _=>.bind (.nd _) fun _=>.bind .tr fun _=>.bind (.nd _) fun _=>.pure _)<|.bind (.nd _) fun _=>.bind (.nd _) fun _=>.pure _
theorem PE.hd {N:Nat}:PE N gHd:=.bind .nm fun _=>.bind (.list Shs.nm.le fun _ _=>.nm) fun _=>.bind .blk fun _=>.pure _
theorem PE.vs {N:Nat}:PE N gVs:=.many Shs.hd.le fun _ _=>.hd
theorem PE.vn {N:Nat} (w:Str):PE N (gVn w):=.bind (.nn _) fun _=>.bind (.nd _) fun _=>.bind .vs fun _=>.bind (.nd _) fun _=>.pure _
theorem PE.vm {N:Nat}:PE N gVm:=.alt (fun _ _=>.bind (.vn _) fun _=>.alt (fun _ _=>.bind (.vn _) fun _=>.pure _) (.pure _)) (.pure _)
theorem PE.cp {N:Nat}:PE N gCp:=.bind .nm fun _=>.bind (.nd _) fun _=>.bind (.many Shs.vr.le fun _ _=>.vr) fun _=>.bind .vs fun _=>.bind .vm fun _=>.bind (.nd _) fun _=>.pure _
theorem PE.ft {N:Nat}:PE N gFt:=.bind (.nd _) fun _=>.bind .nm fun _=>.bind (.nd _) fun _=>.bind (.many Shs.fg.le fun _ _=>.fg) fun _=>.bind (.many Shs.lk.le fun _ _=>.lk) fun _ =>
 .bind (.many Shs.cp.le fun _ _=>.cp) fun _=>.bind (.nd _) fun _=>.pure _
structure Xf {α:Type} (p:Pz α):Prop where
 no:p []=.er [] 8
 go:∀ r a q w,p r=.ok a q→p (r++w)=.ok a (q++w)
theorem Xf.nd (w:Str):Xf (gNd w):=⟨rfl,fun r a q z e=>by
 cases r with
 | nil=>cases e
 | cons t r =>
  unfold gNd at e
  split at e
  ·rename_i h;injection e with _ e
   subst e;show (if isT w (t::(r++z))=true then _ else _)=_;have h2:isT w (t::(r++z))=true:=h;rw [if_pos h2]
   rfl
  ·cases e⟩
theorem Xf.pure {α β:Type} {p:Pz α} {f:α→β} (h:Xf p):Xf (aF p fun a=>aO (f a)):=⟨by unfold aF;rw [h.no];rfl,fun r b q w e=>by
 obtain ⟨a,q1,h1,h2⟩:=Rs.bind_ok e;injection h2 with h2 h3
 subst h2;subst h3;unfold aF;rw [h.go r a q1 w h1]
 rfl⟩
theorem Xf.bind {α β:Type} {p:Pz α} {f:α→Pz β} (hp:∀ N,PE N p) (hf:∀ a,Xf (f a)):Xf (aF p f):=⟨by
 unfold aF;rcases (hp 0).en with h | ⟨b,h⟩
 ·rw [h];rfl
 ·rw [h];exact (hf b).no,fun r b q' w e=>by
 obtain ⟨a,q,h1,h2⟩:=Rs.bind_ok e
 have hq:q≠[]:=fun k=>by
  subst k;rw [(hf a).no] at h2;cases h2
 obtain ⟨u,rfl,_,B⟩:=(hp r.length).pf _ _ _ (Nat.le_refl _) h1;have h3:=B (q++w) (fun k=>hq (List.append_eq_nil_iff.1 k).1) (by cases q with | nil=>exact absurd rfl hq | cons t q=>rfl);unfold aF;rw [List.append_assoc,h3];exact (hf a).go q b q' w h2⟩
theorem Xf.ft:Xf gFt:=.bind (fun _=>.nd _) fun _=>.bind (fun _=>.nm) fun _=>.bind (fun _=>.nd _) fun _=>.bind (fun _=>.many Shs.fg.le fun _ _=>.fg) fun _=>.bind (fun _=>.many Shs.lk.le fun _ _=>.lk) fun _ =>
 .bind (fun _=>.many Shs.cp.le fun _ _=>.cp) fun _=>.pure (.nd _)
theorem HN {K w:List Tk} {f:Ft} (h:gFt K=.ok f []):gFt (K++w)=.ok f w:=Xf.ft.go K f [] w h
theorem OB {K v w:List Tk} {f:Ft} (h:gFt K=.ok f []) (e:K=v++w) (hw:w≠[]):gFt v=.er [] 8:=by
 obtain ⟨u,hu,A,_⟩:=(PE.ft (N:=K.length)).pf K f [] (Nat.le_refl _) h;rw [List.append_nil] at hu;subst hu;rcases A v w e with h1 | ⟨b,h1⟩
 ·exact h1
 ·have h2:=HN (w:=w) h1;rw [← e,h] at h2;injection h2 with _ h2
  exact absurd h2.symm hw
def exB:Nat→Ex→Ex→Bool
 | 0,_,_=>false
 | f+1,.mk o n v l,.mk o' n' v' l'=>decide (o=o') && decide (n=n') && decide (v=v') && (decide (l.length=l'.length) && (l.zip l').all fun p=>exB f p.1 p.2)
theorem KX {α:Type} {r:α→α→Bool} (h:∀ a b,r a b=true→a=b):∀ (l m:List α),l.length=m.length→((l.zip m).all fun p=>r p.1 p.2)=true→l=m
 | [],[],_,_=>rfl
 | [],_::_,e,_=>by cases e
 | _::_,[],e,_=>by cases e
 | a::l,b::m,e,k=>by
  rw [List.zip_cons_cons,List.all_cons,Bool.and_eq_true] at k;rw [h a b k.1,KX h l m (by simpa using e) k.2]
theorem ON:∀ (f:Nat) (a b:Ex),exB f a b=true→a=b
 | 0,_,_,h=>by cases h
 | f+1,.mk o n v l,.mk o' n' v' l',h=>by
  unfold exB at h;simp only [Bool.and_eq_true,decide_eq_true_eq] at h;obtain ⟨⟨⟨rfl,rfl⟩,rfl⟩,h1,h2⟩:=h;rw [KX (r:=exB f) (ON f) l l' h1 h2]
def nmE (c:UInt8):Ex:=.mk 5 [c] 0 []
def txA:Str:=[110,111,116,32,97,32,61,61,32,98]
def txB:Str:=[97,32,60,32,98,32,60,32,99]
def txC:Str:=[102,108,101,101,116]++[32,102,32,123,32]++[108,105,110,107]++[32,97,32,45,62,32,98,32]++[108,97,116,101,110,99,121]++[32]++[57,50,50,51,51,55,50,48,51,54,56,53,52,55,55,53,56,48,56]++[59,32,125]
def txD:Str:=[40,97]
def VZ (x:Rs Ex) (a:Ex):Bool:=match x with | .ok b r=>r.isEmpty && exB 5 b a | .er _ _=>false
theorem UK {x:Rs Ex} {a:Ex} (h:VZ x a=true):x=.ok a []:=by
 unfold VZ at h;cases x with
 | er r c=>cases h
 | ok b r =>
  simp only [Bool.and_eq_true,List.isEmpty_iff] at h;rw [h.1,ON 5 _ _ h.2]
theorem awA:gX 0 (fH txA)=.ok (opE 16 [opE 10 [nmE 97],nmE 98]) []:=UK (by decide +kernel)
theorem awB:(sgZ (gX 0) txB).e=8∧(sgZ (gX 0) txB).o=6:=by decide +kernel
theorem awC:(sgZ gFt txC).e=2∧(sgZ gFt txC).o=30:=by decide +kernel
theorem awD:(sgZ (gX 0) txD).e=8∧(sgZ (gX 0) txD).o=2:=by decide +kernel
end Go.Proofs.YthhoebdlfjffkaaGreatDoor
namespace Go.Proofs.YthhoebdlfjffkaaGreatDoor
open Go.RowKit Go.Par Go.Sx
theorem Fx.call11:aM Tryz.prog 11=Bool.true:=by kernel_rfl
theorem Fx.call19:aM Tryz.prog 19=Bool.true:=by kernel_rfl
theorem KT:eY (opE 16 [opE 10 [nmE 97],nmE 98])=0:=by decide +kernel
theorem JM {H:Hp} (G:Gl H) {w0 W:World} {bs:List Res} {t:Str} {c o:Nat} (ht:t.length≤9223372036854775807) (hc:(sgZ gFt t).e=c) (ho:(sgZ gFt t).o=o) (h0:c≠0)
 (hcp:(up t.length (dC [108,105,110,107] gLk) (up t.length (dC [102,108,97,103] gFg) (up t.length (gNd [123]) (up t.length gNm (up t.length (gNd [102,108,101,101,116]) (sg0 t)))))).e=0→False) (s:St H w0 bs W) :
 Calls Tryz.prog 19 #[aB t] W fun e W'=>∃ z:Hp,HUp w0 H z∧e=.returned (.tuple #[.agg ([.string ⟨#[]⟩,.slice none 0 0,.slice none 0 0,.slice none 0 0]:List Value).toArray,.int .i64 (o:Nat),.int .i64 (c:Nat)])∧St z w0 bs W':=by
 subst hc ho;refine (CE G t ht (fun f _ h=>absurd h h0) (fun h=>(hcp h).elim) s).mono ?_;rintro e W' ⟨z,⟨h1,h2,h3⟩,h4,h5⟩;refine ⟨z.2.2,h2,?_,h5⟩;rw [h4];unfold pzR pzO pzE;simp only [h0,if_false,false_and]
theorem KS (H:Hp) (G:Gl H) (w:World) (hA:Agr H w):Calls Tryz.prog 9 #[] w fun r w'=>r=.returned (.bool true)∧Ext w w':=by
 refine Sx.enter (H:=H) Tryz.func9 rfl Tryz.ntmps9 rfl hA ?_;refine .sr<|.a Z Z<|.ns<|.cs (X:=List Value × Hp) Fx.call11 Z (fun W s=>OL (t:=txA) G (by decide) awA KT s) Z fun z1 hz1=>?_
 obtain ⟨c1,H1⟩:=z1;obtain ⟨u1,r1⟩:=hz1;dsimp only at u1 r1 ⊢;obtain ⟨p,c,rfl,hs,_⟩:=bZ r1;obtain ⟨bE,oE,cE,hpE,rE,lE,mE⟩:=hs.elem (i:=0) (d:=dEx .u8 (opE 10 [nmE 97])) rfl;obtain ⟨bF,oF,cF,hpF,rF,lF,mF⟩:=hs.elem (i:=1) (d:=dEx .u8 (nmE 98)) rfl;cases hpE;cases hpF;obtain ⟨p2,c2,rfl,_,_⟩:=bZ rE;obtain ⟨p3,c3,rfl,_,_⟩:=bZ rF;refine .mv Z<|.yw (.extract Z Z)<|.yw (.extract Z Z)<|.yw (.extract Z Z)<|.al Fx.zero27 Z fun b1=>.sW .head Z Z Fx.size27 (Rep.one r1) Z<|.a Z Z<|.a Z Z<|.nt<|.sq<|.sr<|.mv Z<|.yw (.cast (.neq Z Z) (congrArg Value.bool (decide_eq_false (fun h=>h Z))))<|.mv Z<|.gd Z Z<|.yw (.move Z)<|.gd Z Z<|.yw (.cast (.neq Z Z) (congrArg Value.bool (decide_eq_false (fun h=>h Z))))<|.yw (.pickF Z Z)<|.mv Z<|.gd Z Z<|.yw (.fieldAddr Z Fx.field27_0)<|.gd Z Z<|.yw (.load Z Fx.agg24 (.head _) Z)<|.gd Z Z<|.yw (.cast (.neq Z Z) (congrArg Value.bool (decide_eq_false (fun h=>h Z))))<|.yw (.pickF Z Z)<|.mv Z<|.gd Z Z<|.yw (.fieldAddr Z Fx.field27_3)<|.gd Z Z<|.yw (.load Z Fx.agg25 (.head _) Z)<|.gd Z Z<|.yw (.lenSl Fx.sl25 Z)<|.gd Z Z<|.yw (.cast (.neq Z Z) (congrArg Value.bool (decide_eq_false (fun h=>h Z))))<|.yw (.pickF Z Z)<|.mv Z<|.gd Z Z<|.yw (.fieldAddr Z Fx.field27_3)<|.gd Z Z<|.yw (.load Z Fx.agg25 (.head _) Z)<|.gd Z Z<|.yw (.indexSl Fx.sl25 Z Z (i:=0) Z (by decide) (q:=oE+0 * 4) (by omega))<|.gd Z Z<|.yw (.fieldAddr Z Fx.field27_0)<|.gd Z Z<|.yw (.loadM Z Fx.agg24 mE (k:=0) Z Z)<|.gd Z Z<|.yw (.cast (.neq Z Z) (congrArg Value.bool (decide_eq_false (fun h=>h Z))))<|.yw (.pickF Z Z)<|.mv Z<|.gd Z Z<|.yw (.fieldAddr Z Fx.field27_3)<|.gd Z Z<|.yw (.load Z Fx.agg25 (.head _) Z)<|.gd Z Z<|.yw (.indexSl Fx.sl25 Z Z (i:=1) Z (by decide) (q:=oE+1 * 4) (by omega))<|.gd Z Z<|.yw (.fieldAddr Z Fx.field27_1)<|.gd Z Z<|.yw (.loadM Z Fx.agg9 mF (k:=1) Z Z)<|.gd Z Z<|.yw (.cast (.neS Z Z) (congrArg Value.bool (decide_eq_false (fun h=>h Z))))<|.yw (.pickF Z Z)<|.nt<|.cF Z<|.sk<|.tN<|.sr<|.cs (X:=Hp) Fx.call11 Z (fun W s=>yB (t:=txB) (G.up u1.up) (by decide) awB.1 awB.2 (by decide) s) Z fun H2 u2=>.mv Z<|.yw (.extract Z Z)<|.yw (.extract Z Z)<|.yw (.extract Z Z)<|.a Z Z<|.a Z Z<|.ns<|.cs (X:=Hp) Fx.call19 Z (fun W s=>JM (t:=txC) ((G.up u1.up).up u2.up) (by decide) awC.1 awC.2 (by decide) (fun h=>absurd h (by decide +kernel)) s) Z fun H3 u3=>.mv Z<|.yw (.extract Z Z)<|.yw (.extract Z Z)<|.yw (.extract Z Z)<|.al Fx.zero49 Z fun b4=>.sW .head Z Z Fx.size49 (by simp [Value.oneCell']) Z<|.a Z Z<|.a Z Z<|.ns<|.cs (X:=Hp) Fx.call11 Z (fun W s=>yB (t:=txD) (((G.up u1.up).up u2.up).up u3.up) (by decide) awD.1 awD.2 (by decide) s) Z fun H4 u4=>.mv Z<|.yw (.extract Z Z)<|.yw (.extract Z Z)<|.yw (.extract Z Z)<|.al Fx.zero27 Z fun b7=>.sW .head Z Z Fx.size27 (by simp [Value.oneCell']) Z<|.a Z Z<|.a Z Z<|.ns<|.mv Z<|.yw (.cast (.eql Z Z) (congrArg Value.bool (decide_eq_true Z)))<|.mv Z<|.gd Z Z<|.yw (.move Z)<|.gd Z Z<|.yw (.cast (.eql Z Z) (congrArg Value.bool (decide_eq_true Z)))<|.yw (.pickT Z Z)<|.mv Z<|.gd Z Z<|.yw (.move Z)<|.gd Z Z<|.yw (.cast (.eql Z Z) (congrArg Value.bool (decide_eq_true Z)))<|.yw (.pickT Z Z)<|.mv Z<|.gd Z Z<|.yw (.move Z)<|.gd Z Z<|.yw (.cast (.eql Z Z) (congrArg Value.bool (decide_eq_true Z)))<|.yw (.pickT Z Z)<|.mv Z<|.gd Z Z<|.yw (.move Z)<|.gd Z Z<|.yw (.cast (.eql Z Z) (congrArg Value.bool (decide_eq_true Z)))<|.yw (.pickT Z Z)<|.mv Z<|.gd Z Z<|.yw (.move Z)<|.gd Z Z<|.yw (.cast (.eql Z Z) (congrArg Value.bool (decide_eq_true Z)))<|.yw (.pickT Z Z)<|.a Z Z<|.nt<|.rt<|?_
 exact Sx.ret1 (.inl rfl) rfl (.tmp rfl) fun W s=>⟨rfl,s.ext⟩
end Go.Proofs.YthhoebdlfjffkaaGreatDoor
namespace Go.Proofs.YthhoebdlfjffkaaGreatDoor
open Go.RowKit Go.Par Go.Sx
end Go.Proofs.YthhoebdlfjffkaaGreatDoor
namespace Go.Proofs.YthhoebdlfjffkaaGreatDoor
open Go.RowKit Go.Par Go.Sx
theorem Fx.call9:aM Tryz.prog 9=Bool.true:=by kernel_rfl
theorem Fx.call10:aM Tryz.prog 10=Bool.true:=by kernel_rfl
theorem JG (l:Str) (w:World):Calls Tryz.prog 10 #[aB l] w fun r w'=>r=.returned (aB (l.take 5000))∧Ext w w':=by
 refine Sx.enter (H:=(fun _=>none)) Tryz.func10 rfl Tryz.ntmps10 rfl (fun _ _ e=>by cases e) ?_;refine .sr<|.a Z Z<|.ns<|.mv Z<|.mv Z<|.yw (.lenS Fx.str9 Z)<|.yw (.min2 Z Z (c:=((min l.length 5000:Nat):Int)) (by omega))<|.yw (.takeS Fx.str9 Z Z (hi:=min l.length 5000) Z (by omega))<|.a Z Z<|.nt<|.rt<|?_
 refine Sx.ret1 (.inl rfl) rfl (.tmp rfl) fun W s=>⟨?_,s.ext⟩;rw [show l.take (min l.length 5000)=l.take 5000 by rw [Nat.min_comm,← List.take_take,List.take_length]]
 rfl
end Go.Proofs.YthhoebdlfjffkaaGreatDoor
namespace Go.Proofs.YthhoebdlfjffkaaGreatDoor
open Go.RowKit Go.Par Go.Sx
open Go.RowKit Go.Par Go.Sx
open Go.RowKit Go.Par Go.Sx
def JQ (N:Nat):Sm→Bool
 | .mk _ _ _ ex _ _=>decide (ex.length≤N) && ex.all (Ex.all mW)
structure syL (N:Nat) (l:List Sm):Prop where
 cnt:Sm.counts l≤N
 dep:Sm.deeps l≤N
 all:Sm.alls (JQ N) l=true
theorem UH {N:Nat}:∀ s,tA N s=true→JQ N s=true
 | .mk kd nm hd ex th el,h=>by
  simp only [tA,JQ,Bool.and_eq_true,decide_eq_true_eq,List.all_eq_true] at h ⊢;exact ⟨h.1,fun e he=>by have:=h.2 e he;simp only [okE,Bool.and_eq_true] at this;exact this.2⟩
theorem okL.sy {N:Nat} {l:List Sm} (h:okL N l):syL N l:=⟨h.cnt,h.dep,gQ UH l h.all⟩
theorem syL.len {N:Nat} {l:List Sm} (h:syL N l):l.length≤N:=Nat.le_trans (iU l) h.cnt
theorem syL.left {N:Nat} {a b:List Sm} (h:syL N (a++b)):syL N a:=by
 obtain ⟨h1,h2,h3⟩:=h;rw [eK] at h1;rw [fA] at h2;rw [fS,Bool.and_eq_true] at h3;exact ⟨by omega,by omega,h3.1⟩
theorem syL.right {N:Nat} {a b:List Sm} (h:syL N (a++b)):syL N b:=by
 obtain ⟨h1,h2,h3⟩:=h;rw [eK] at h1;rw [fA] at h2;rw [fS,Bool.and_eq_true] at h3;exact ⟨by omega,by omega,h3.2⟩
theorem syL.at {N:Nat} {l:List Sm} (h:syL N l) {j:Nat} (hj:j<l.length):syL N [l[j]]:=by
 have h2:=h;rw [uW hj] at h2;exact h2.right.left
theorem QE {N:Nat} {kd:UInt8} {nm hd:Str} {ex:List Ex} {th el:List Sm} (h:syL N [.mk kd nm hd ex th el]):Sm.counts th+Sm.counts el+1≤N∧Sm.deeps th+1≤N∧Sm.deeps el+1≤N∧ex.length≤N∧ex.all (Ex.all mW)=true∧Sm.alls (JQ N) th=true∧Sm.alls (JQ N) el=true:=by
 obtain ⟨h1,h2,h3⟩:=h;simp only [Sm.counts,dP] at h1;simp only [Sm.deeps,iT] at h2;simp only [Sm.alls,eU,JQ,Bool.and_eq_true,decide_eq_true_eq] at h3;exact ⟨by omega,by omega,by omega,h3.1.1.1.1,h3.1.1.1.2,h3.1.1.2,h3.1.2⟩
structure XB (N:Nat) (h:Hd):Prop where
 ps:h.ps.length≤N
 body:syL N h.body
structure XA (N:Nat) (v:List Hd):Prop where
 len:v.length≤N
 all:∀ h∈v,XB N h
structure XC (N:Nat) (c:Cp):Prop where
 vars:c.vars.length≤N
 vers:c.vers.length≤N
 all:∀ v∈c.vers,XA N v
structure TR (N:Nat) (f:Ft):Prop where
 flags:f.flags.length≤N
 links:f.links.length≤N
 comps:f.comps.length≤N
 all:∀ c∈f.comps,XC N c
theorem CL.sy {N:Nat} {f:Ft} (h:CL N f):TR N f :=
 ⟨h.flags,h.links,h.comps,fun c hc=>⟨(h.all c hc).vars,(h.all c hc).vers,fun v hv=>⟨((h.all c hc).all v hv).len,fun x hx=>⟨(((h.all c hc).all v hv).all x hx).ps,(((h.all c hc).all v hv).all x hx).body.sy⟩⟩⟩⟩
end Go.Proofs.YthhoebdlfjffkaaGreatDoor
namespace Go.Proofs.YthhoebdlfjffkaaGreatDoor
open Go.RowKit Go.Par Go.Sx
set_option maxHeartbeats 2000000 in
theorem PB (N:Nat) (hN:N≤1000000):∀ (l:List Sm),syL N l→∀ (H:Hp) (v:Value) (w:World),Rep H (.seq 6 (l.map (dSm .i64))) [v]→Agr H w →
 Calls Tryz.prog 60 #[v] w fun r w'=>∃ (y:Value) (H':Hp),Rep H' (.seq 6 (l.map (dSm .u8))) [y]∧r=.returned y∧mS H w H' w':=by
 refine Sm.lists fun l ih=>?_;intro hok H v w hs hA;obtain ⟨p,c,e,_⟩:=hs.sl;simp only [List.cons.injEq,and_true,List.length_map] at e;subst e;have hcap:=hs.cap;have hll:=hok.len;refine Sx.enter (H:=H) Tryz.func60 rfl Tryz.ntmps60 rfl hA ?_;refine .sr<|.a Z Z<|.ns<|.a Z Z<|?_
 refine Sx.row0 208 6 ?_;refine .nt<|.sq<|.sr<|.mv Z<|.yw (.lenSl Fx.sl156 Z)<|.mv Z<|.nt<|.bk<|.lp (X:=Nat × Hp × Value × List Value) [(9,_),(10,_)] ⟨rfl,rfl,trivial⟩ [] (fun z=>[(3,z.2.2.1),(11,.int .i64 (z.1:Nat))]) (fun z=>z.2.1) (fun z=>[.row 208 6 z.2.2.1 z.1 z.2.2.2]) (fun z=>z.1≤l.length∧HUp w H z.2.1∧aL z.2.1 6 ((l.take z.1).map (dSm .u8)) z.2.2.2) (fun z=>l.length - z.1) (0,H,.slice none 0 0,[]) (fun _ s=>s) ⟨rfl,rfl,trivial⟩ ⟨by simp,.refl,aL.nil⟩ fun z hC=>?_
 obtain ⟨k,H1,r,xs⟩:=z;dsimp only at hC ⊢;obtain ⟨hk0,u1,hz⟩:=hC;refine .sr<|.yw (.lss Z Z)<|.nt<|.sq<|.cd Z (fun h12=>?_) (fun h12=>?_)
 ·try simp only [dt] at h12
  have hk:k<l.length:=by omega
  obtain ⟨bE,oE,cE,hpE,rE,lE,mE⟩:=(hs.up u1.up).elem (bB (f:=dSm .i64) hk);cases hpE;have hi:=ih _ (List.getElem_mem hk);have hka:=hok.at hk;generalize hx:l[k]=x at rE hi hka;obtain ⟨kd,nm,hd,ex,th,el⟩:=x;obtain ⟨p1,c1,p2,c2,p3,c3,rfl,hs1,hs2,hs3,hn1,hn2⟩:=jA rE;simp only [Sm.th,Sm.el] at hi;obtain ⟨k1,k2,k3,k4,k5,k6,k7⟩:=QE hka;have hit:=hi.1 ⟨by omega,by omega,k6⟩;have hie:=hi.2 ⟨by omega,by omega,k7⟩;have hcap1:=hs1.cap;refine .sk<|.tN<|.sq<|.bk<|.sr<|.yw (.indexSl Fx.sl156 Z Z Z (by omega) (q:=oE+k * 6) Z)<|.yw (.loadMW Z Fx.agg205 mE Z)<|.al Fx.zero205 Z fun b5=>.sW .head Z Z Fx.size205 (by simp [Value.oneCell',aB]) Z<|.nt<|.sq<|.ft (p:=.light _ _ (.light _ _ (.light _ _ (.light _ _ (.light _ _ (.light _ _ (.light _ _ (.light _ _ (.light _ _ (.light _ _ (.light _ _ (.alt _ _ _ (.alt _ _ _ (.light _ _ (.alt _ _ _ (.done) (.no))) (.alt _ _ _ (.alt _ _ _ (.light _ _ (.done)) (.no)) (.no))) (.alt _ _ _ (.alt _ _ _ (.alt _ _ _ (.light _ _ (.done)) (.no)) (.no)) (.no)))))))))))))) 15 (.light 0 (.light 1 (.light 2 (.light 3 (.light 4 (.light 5 (.light 6 (.light 7 (.light 8 (.light 10 (.light 11 (.alt 9 0 (.alt 12 0 (.light 13 (.alt 14 0 (.done) (.no))) (.alt 14 0 (.alt 12 0 (.light 13 (.done)) (.no)) (.no))) (.alt 14 0 (.alt 9 0 (.alt 12 0 (.light 13 (.done)) (.no)) (.no)) (.no)))))))))))))) (by kernel_rfl) (by kernel_rfl) Z<|.yw (.fieldAddr Z Fx.field205_0)<|.yw (.load Z Fx.agg3 (.head _) Z)<|.yw (.conv Z Fx.int3 Fx.int206 (c:=(kd.toNat:Nat)) (by have:=kd.toNat_lt;simp only [IntKind.wrap,IntKind.signed,IntKind.bits];simp;omega))<|.yw (.fieldAddr Z Fx.field205_1)<|.yw (.load Z Fx.agg9 (.head _) Z)<|.yw (.fieldAddr Z Fx.field205_2)<|.yw (.load Z Fx.agg9 (.head _) Z)<|.yw (.fieldAddr Z Fx.field205_4)<|.yw (.load Z Fx.agg156 (.head _) Z)<|.yw (.fieldAddr Z Fx.field205_5)<|.yw (.load Z Fx.agg156 (.head _) Z)<|.h ?_ (.h ?_ .nn)
  ·
   refine .ct (X:=Value) Fx.call60 Z (fun W s=>hit H1 _ W hs2 s.agr) Z fun y24 H24 hy24 u24=>?_;obtain ⟨q24,d24,e24,_⟩:=hy24.sl;simp only [List.cons.injEq,and_true,List.length_map] at e24;subst e24;refine .h ?_ (.h ?_ .nn)
   ·
    refine .ct (X:=Value) Fx.call60 Z (fun W s=>hie H24 _ W (hs3.up u24.up) s.agr) Z fun y27 H27 hy27 u27=>?_;obtain ⟨q27,d27,e27,_⟩:=hy27.sl;simp only [List.cons.injEq,and_true,List.length_map] at e27;subst e27;have u5:=u24.trans u27;have hs1b:=hs1.up u5.up;have hy24b:=hy24.up u27.up;refine .yw (.build Z (Fx.bld208_0_1_2_4_5 _ _ _ _ _ _ _ _ _))<|.h1<|.al Fx.zero208 Z fun b6=>.fn (tl:=[_]) Z<|.sW .head Z Z Fx.size208 (by simp [Value.oneCell',aB]) Z<|.nt<|.sq<|.sr<|.yw (.fieldAddr Z Fx.field205_3)<|.yw (.load Z Fx.agg31 aW Z)<|.yw (.lenSl Fx.sl31 Z)<|.mv Z<|?_
    refine Sx.row0 27 4 ?_;refine .nt<|.bk<|.lp (X:=Nat × Hp × Value × List Value) [(3,_),(6,_),(9,_),(10,_),(11,_),(30,_),(31,_)] ⟨rfl,rfl,rfl,rfl,rfl,rfl,rfl,trivial⟩ [_,_] (fun z=>[(32,.int .i64 (z.1:Nat))]) (fun z=>z.2.1) (fun z=>[.row 27 4 z.2.2.1 z.1 z.2.2.2,.box b6 [.int .u8 kd.toNat,aB nm,aB hd,z.2.2.1,.slice q24 th.length d24,.slice q27 el.length d27] 208]) (fun z=>z.1≤ex.length∧HUp w H27 z.2.1∧aL z.2.1 4 ((ex.take z.1).map (dEx .u8)) z.2.2.2) (fun z=>ex.length - z.1) (0,H27,.slice none 0 0,[]) (fun _ s=>s) ⟨rfl,trivial⟩ ⟨by simp,.refl,aL.nil⟩ fun z hC=>?_
    obtain ⟨j,H3,re,ys⟩:=z;dsimp only at hC ⊢;obtain ⟨hj0,u3,hze⟩:=hC;refine .sr<|.yw (.lss Z Z)<|.nt<|.sq<|.cd Z (fun h33=>?_) (fun h33=>?_)
    ·try simp only [dt] at h33
     have hj:j<ex.length:=by omega
     obtain ⟨bF,oF,cF,hpF,rF,lF,mF⟩:=(hs1b.up u3.up).elem (bB (f:=dEx .i64) hj);cases hpF;have hnj:Ex.all mW ex[j]=true:=List.all_eq_true.1 k5 _ (List.getElem_mem hj);refine .sk<|.tN<|.sq<|.bk<|.sr<|.yw (.indexSl Fx.sl31 Z Z Z (by omega) (q:=oF+j * 4) Z)<|.yw (.loadMW Z Fx.agg33 mF lF)<|.al Fx.zero33 Z fun b8=>.sV .head Z Z Fx.size33 lF rF.one Z<|.nt<|.fL 5 [(0,0),(1,0),(2,0),(3,1),(4,1)]<|.yw (.fieldAddr Z Fx.field208_3)<|.yw (.load Z Fx.agg25 cC Z)<|.yw (.loadW Z Fx.agg33 (.head _) lF)<|.ct (X:=List Value) Fx.call14 Z (fun W s=>wH _ hnj H3 cF W rF s.agr) Z fun x39 H39 hx39 u39=>?_
     generalize hxj:ex[j]=xj at hx39;obtain ⟨op2,nm2,n2,kD⟩:=xj;obtain ⟨pz,cz,rfl,hz2,hnm2⟩:=bZ hx39;exact .bl Z (Fx.bsl25_1 _ _ _ _) Z fun b40=>.fn (tl:=[_,_,_]) Z<|.ap (news:=[.int .u8 op2.toNat,aB nm2,.int .i64 n2.toInt,.slice pz kD.length cz]) Fx.row25 Z (fun _=>cJ) Z (.box (.head _) z0) Z (by simp [Value.oneCell',aB]) (by simp [maxLen];omega) (by omega) Z fun r41 _=>.ra cC fun p41 c41 e41=>.yw (.fieldAddr Z Fx.field208_3)<|.st fQ Z Z Fx.size25 (by rw [e41];rfl) (nb Z) Z<|.nl<|.bN<|.tN<|.rg<|.yw (.add Z Z (w6 (by omega)))<|.mv Z<|.nt<|.ag (x:=(j,H3,re,ys)) (j+1,H39,r41,ys++[.int .u8 op2.toNat,aB nm2,.int .i64 n2.toInt,.slice pz kD.length cz]) ⟨rfl,trivial⟩ ⟨rfl,rfl,rfl,rfl,rfl,rfl,rfl,trivial⟩ (fun _ s=>(s.pick [2,3,4,5] _ Z Z)) ⟨by dsimp only;omega,u3.trans u39,by dsimp only;rw [bK hj,hxj,List.map_append];exact (hze.up u39.up).snoc hx39 Z⟩ (by dsimp only;omega)
    try simp only [df] at h33
    obtain rfl:j=ex.length:=by omega
    rw [List.take_length] at hze;refine Sx.freezeSeq (ds:=ex.map (dEx .u8)) (by simp) hze fun H3 pX cX u6 eX hX=>?_;subst eX;have uX:=u5.trans (u3.trans u6);have hy24X:=hy24b.up (u3.trans u6).up;have hy27X:=hy27.up (u3.trans u6).up;exact .ex<|.tE<|.tE<|.bE<|.tN<|.rg<|.mv Z<|.yw (.loadW Z Fx.agg208 (.head _) Z)<|.bl Z (Fx.bsl159_1 _ _ _ _ _ _) Z fun b46=>.ap (news:=[.int .u8 kd.toNat,aB nm,aB hd,.slice pX ex.length cX,.slice q24 th.length d24,.slice q27 el.length d27]) Fx.row159 Z (fun _=>fQ) Z (.box (.head _) z0) Z (by simp [Value.oneCell',aB]) (by simp [maxLen];omega) (by omega) Z fun r47 _=>.a Z Z<|.nl<|.bN<|.tN<|.rg<|.yw (.add Z Z (w6 (by omega)))<|.mv Z<|.nt<|.ag (x:=(k,H1,r,xs)) (k+1,H3,r47,xs++[.int .u8 kd.toNat,aB nm,aB hd,.slice pX ex.length cX,.slice q24 th.length d24,.slice q27 el.length d27]) ⟨rfl,rfl,trivial⟩ ⟨rfl,rfl,trivial⟩ (fun _ s=>(s.pick [3] _ Z Z)) ⟨by dsimp only;omega,u1.trans uX,by dsimp only;rw [bK hk,hx,List.map_append];exact (hz.up uX.up).snoc (dG (by omega) (by omega) hX hy24X hy27X) Z⟩ (by dsimp only;omega)
   refine .al Fx.zero208 Z fun b6=>.h1<|.ct (X:=Value) Fx.call60 Z (fun W s=>hie H24 _ W (hs3.up u24.up) s.agr) Z fun y27 H27 hy27 u27=>?_
   obtain ⟨q27,d27,e27,_⟩:=hy27.sl;simp only [List.cons.injEq,and_true,List.length_map] at e27;subst e27;have u5:=u24.trans u27;have hs1b:=hs1.up u5.up;have hy24b:=hy24.up u27.up;refine .yw (.build Z (Fx.bld208_0_1_2_4_5 _ _ _ _ _ _ _ _ _))<|.fn (tl:=[_]) Z<|.sW .head Z Z Fx.size208 (by simp [Value.oneCell',aB]) Z<|.nt<|.sq<|.sr<|.yw (.fieldAddr Z Fx.field205_3)<|.yw (.load Z Fx.agg31 aW Z)<|.yw (.lenSl Fx.sl31 Z)<|.mv Z<|?_
   refine Sx.row0 27 4 ?_;refine .nt<|.bk<|.lp (X:=Nat × Hp × Value × List Value) [(3,_),(6,_),(9,_),(10,_),(11,_),(30,_),(31,_)] ⟨rfl,rfl,rfl,rfl,rfl,rfl,rfl,trivial⟩ [_,_] (fun z=>[(32,.int .i64 (z.1:Nat))]) (fun z=>z.2.1) (fun z=>[.row 27 4 z.2.2.1 z.1 z.2.2.2,.box b6 [.int .u8 kd.toNat,aB nm,aB hd,z.2.2.1,.slice q24 th.length d24,.slice q27 el.length d27] 208]) (fun z=>z.1≤ex.length∧HUp w H27 z.2.1∧aL z.2.1 4 ((ex.take z.1).map (dEx .u8)) z.2.2.2) (fun z=>ex.length - z.1) (0,H27,.slice none 0 0,[]) (fun _ s=>s) ⟨rfl,trivial⟩ ⟨by simp,.refl,aL.nil⟩ fun z hC=>?_
   obtain ⟨j,H3,re,ys⟩:=z;dsimp only at hC ⊢;obtain ⟨hj0,u3,hze⟩:=hC;refine .sr<|.yw (.lss Z Z)<|.nt<|.sq<|.cd Z (fun h33=>?_) (fun h33=>?_)
   ·try simp only [dt] at h33
    have hj:j<ex.length:=by omega
    obtain ⟨bF,oF,cF,hpF,rF,lF,mF⟩:=(hs1b.up u3.up).elem (bB (f:=dEx .i64) hj);cases hpF;have hnj:Ex.all mW ex[j]=true:=List.all_eq_true.1 k5 _ (List.getElem_mem hj);refine .sk<|.tN<|.sq<|.bk<|.sr<|.yw (.indexSl Fx.sl31 Z Z Z (by omega) (q:=oF+j * 4) Z)<|.yw (.loadMW Z Fx.agg33 mF lF)<|.al Fx.zero33 Z fun b8=>.sV .head Z Z Fx.size33 lF rF.one Z<|.nt<|.fL 5 [(0,0),(1,0),(2,0),(3,1),(4,1)]<|.yw (.fieldAddr Z Fx.field208_3)<|.yw (.load Z Fx.agg25 cC Z)<|.yw (.loadW Z Fx.agg33 (.head _) lF)<|.ct (X:=List Value) Fx.call14 Z (fun W s=>wH _ hnj H3 cF W rF s.agr) Z fun x39 H39 hx39 u39=>?_
    generalize hxj:ex[j]=xj at hx39;obtain ⟨op2,nm2,n2,kD⟩:=xj;obtain ⟨pz,cz,rfl,hz2,hnm2⟩:=bZ hx39;exact .bl Z (Fx.bsl25_1 _ _ _ _) Z fun b40=>.fn (tl:=[_,_,_]) Z<|.ap (news:=[.int .u8 op2.toNat,aB nm2,.int .i64 n2.toInt,.slice pz kD.length cz]) Fx.row25 Z (fun _=>cJ) Z (.box (.head _) z0) Z (by simp [Value.oneCell',aB]) (by simp [maxLen];omega) (by omega) Z fun r41 _=>.ra cC fun p41 c41 e41=>.yw (.fieldAddr Z Fx.field208_3)<|.st fQ Z Z Fx.size25 (by rw [e41];rfl) (nb Z) Z<|.nl<|.bN<|.tN<|.rg<|.yw (.add Z Z (w6 (by omega)))<|.mv Z<|.nt<|.ag (x:=(j,H3,re,ys)) (j+1,H39,r41,ys++[.int .u8 op2.toNat,aB nm2,.int .i64 n2.toInt,.slice pz kD.length cz]) ⟨rfl,trivial⟩ ⟨rfl,rfl,rfl,rfl,rfl,rfl,rfl,trivial⟩ (fun _ s=>(s.pick [2,3,4,5] _ Z Z)) ⟨by dsimp only;omega,u3.trans u39,by dsimp only;rw [bK hj,hxj,List.map_append];exact (hze.up u39.up).snoc hx39 Z⟩ (by dsimp only;omega)
   try simp only [df] at h33
   obtain rfl:j=ex.length:=by omega
   rw [List.take_length] at hze;refine Sx.freezeSeq (ds:=ex.map (dEx .u8)) (by simp) hze fun H3 pX cX u6 eX hX=>?_;subst eX;have uX:=u5.trans (u3.trans u6);have hy24X:=hy24b.up (u3.trans u6).up;have hy27X:=hy27.up (u3.trans u6).up;exact .ex<|.tE<|.tE<|.bE<|.tN<|.rg<|.mv Z<|.yw (.loadW Z Fx.agg208 (.head _) Z)<|.bl Z (Fx.bsl159_1 _ _ _ _ _ _) Z fun b46=>.ap (news:=[.int .u8 kd.toNat,aB nm,aB hd,.slice pX ex.length cX,.slice q24 th.length d24,.slice q27 el.length d27]) Fx.row159 Z (fun _=>fQ) Z (.box (.head _) z0) Z (by simp [Value.oneCell',aB]) (by simp [maxLen];omega) (by omega) Z fun r47 _=>.a Z Z<|.nl<|.bN<|.tN<|.rg<|.yw (.add Z Z (w6 (by omega)))<|.mv Z<|.nt<|.ag (x:=(k,H1,r,xs)) (k+1,H3,r47,xs++[.int .u8 kd.toNat,aB nm,aB hd,.slice pX ex.length cX,.slice q24 th.length d24,.slice q27 el.length d27]) ⟨rfl,rfl,trivial⟩ ⟨rfl,rfl,trivial⟩ (fun _ s=>(s.pick [3] _ Z Z)) ⟨by dsimp only;omega,u1.trans uX,by dsimp only;rw [bK hk,hx,List.map_append];exact (hz.up uX.up).snoc (dG (by omega) (by omega) hX hy24X hy27X) Z⟩ (by dsimp only;omega)
  refine .al Fx.zero208 Z fun b6=>.h1<|.ct (X:=Value) Fx.call60 Z (fun W s=>hit H1 _ W hs2 s.agr) Z fun y24 H24 hy24 u24=>?_
  obtain ⟨q24,d24,e24,_⟩:=hy24.sl;simp only [List.cons.injEq,and_true,List.length_map] at e24;subst e24;refine .h1<|.ct (X:=Value) Fx.call60 Z (fun W s=>hie H24 _ W (hs3.up u24.up) s.agr) Z fun y27 H27 hy27 u27=>?_
  obtain ⟨q27,d27,e27,_⟩:=hy27.sl;simp only [List.cons.injEq,and_true,List.length_map] at e27;subst e27;have u5:=u24.trans u27;have hs1b:=hs1.up u5.up;have hy24b:=hy24.up u27.up;refine .yw (.build Z (Fx.bld208_0_1_2_4_5 _ _ _ _ _ _ _ _ _))<|.fn (tl:=[_]) Z<|.sW .head Z Z Fx.size208 (by simp [Value.oneCell',aB]) Z<|.nt<|.sq<|.sr<|.yw (.fieldAddr Z Fx.field205_3)<|.yw (.load Z Fx.agg31 aW Z)<|.yw (.lenSl Fx.sl31 Z)<|.mv Z<|?_
  refine Sx.row0 27 4 ?_;refine .nt<|.bk<|.lp (X:=Nat × Hp × Value × List Value) [(3,_),(6,_),(9,_),(10,_),(11,_),(30,_),(31,_)] ⟨rfl,rfl,rfl,rfl,rfl,rfl,rfl,trivial⟩ [_,_] (fun z=>[(32,.int .i64 (z.1:Nat))]) (fun z=>z.2.1) (fun z=>[.row 27 4 z.2.2.1 z.1 z.2.2.2,.box b6 [.int .u8 kd.toNat,aB nm,aB hd,z.2.2.1,.slice q24 th.length d24,.slice q27 el.length d27] 208]) (fun z=>z.1≤ex.length∧HUp w H27 z.2.1∧aL z.2.1 4 ((ex.take z.1).map (dEx .u8)) z.2.2.2) (fun z=>ex.length - z.1) (0,H27,.slice none 0 0,[]) (fun _ s=>s) ⟨rfl,trivial⟩ ⟨by simp,.refl,aL.nil⟩ fun z hC=>?_
  obtain ⟨j,H3,re,ys⟩:=z;dsimp only at hC ⊢;obtain ⟨hj0,u3,hze⟩:=hC;refine .sr<|.yw (.lss Z Z)<|.nt<|.sq<|.cd Z (fun h33=>?_) (fun h33=>?_)
  ·try simp only [dt] at h33
   have hj:j<ex.length:=by omega
   obtain ⟨bF,oF,cF,hpF,rF,lF,mF⟩:=(hs1b.up u3.up).elem (bB (f:=dEx .i64) hj);cases hpF;have hnj:Ex.all mW ex[j]=true:=List.all_eq_true.1 k5 _ (List.getElem_mem hj);refine .sk<|.tN<|.sq<|.bk<|.sr<|.yw (.indexSl Fx.sl31 Z Z Z (by omega) (q:=oF+j * 4) Z)<|.yw (.loadMW Z Fx.agg33 mF lF)<|.al Fx.zero33 Z fun b8=>.sV .head Z Z Fx.size33 lF rF.one Z<|.nt<|.fL 5 [(0,0),(1,0),(2,0),(3,1),(4,1)]<|.yw (.fieldAddr Z Fx.field208_3)<|.yw (.load Z Fx.agg25 cC Z)<|.yw (.loadW Z Fx.agg33 (.head _) lF)<|.ct (X:=List Value) Fx.call14 Z (fun W s=>wH _ hnj H3 cF W rF s.agr) Z fun x39 H39 hx39 u39=>?_
   generalize hxj:ex[j]=xj at hx39;obtain ⟨op2,nm2,n2,kD⟩:=xj;obtain ⟨pz,cz,rfl,hz2,hnm2⟩:=bZ hx39;exact .bl Z (Fx.bsl25_1 _ _ _ _) Z fun b40=>.fn (tl:=[_,_,_]) Z<|.ap (news:=[.int .u8 op2.toNat,aB nm2,.int .i64 n2.toInt,.slice pz kD.length cz]) Fx.row25 Z (fun _=>cJ) Z (.box (.head _) z0) Z (by simp [Value.oneCell',aB]) (by simp [maxLen];omega) (by omega) Z fun r41 _=>.ra cC fun p41 c41 e41=>.yw (.fieldAddr Z Fx.field208_3)<|.st fQ Z Z Fx.size25 (by rw [e41];rfl) (nb Z) Z<|.nl<|.bN<|.tN<|.rg<|.yw (.add Z Z (w6 (by omega)))<|.mv Z<|.nt<|.ag (x:=(j,H3,re,ys)) (j+1,H39,r41,ys++[.int .u8 op2.toNat,aB nm2,.int .i64 n2.toInt,.slice pz kD.length cz]) ⟨rfl,trivial⟩ ⟨rfl,rfl,rfl,rfl,rfl,rfl,rfl,trivial⟩ (fun _ s=>(s.pick [2,3,4,5] _ Z Z)) ⟨by dsimp only;omega,u3.trans u39,by dsimp only;rw [bK hj,hxj,List.map_append];exact (hze.up u39.up).snoc hx39 Z⟩ (by dsimp only;omega)
  try simp only [df] at h33
  obtain rfl:j=ex.length:=by omega
  rw [List.take_length] at hze;refine Sx.freezeSeq (ds:=ex.map (dEx .u8)) (by simp) hze fun H3 pX cX u6 eX hX=>?_;subst eX;have uX:=u5.trans (u3.trans u6);have hy24X:=hy24b.up (u3.trans u6).up;have hy27X:=hy27.up (u3.trans u6).up;exact .ex<|.tE<|.tE<|.bE<|.tN<|.rg<|.mv Z<|.yw (.loadW Z Fx.agg208 (.head _) Z)<|.bl Z (Fx.bsl159_1 _ _ _ _ _ _) Z fun b46=>.ap (news:=[.int .u8 kd.toNat,aB nm,aB hd,.slice pX ex.length cX,.slice q24 th.length d24,.slice q27 el.length d27]) Fx.row159 Z (fun _=>fQ) Z (.box (.head _) z0) Z (by simp [Value.oneCell',aB]) (by simp [maxLen];omega) (by omega) Z fun r47 _=>.a Z Z<|.nl<|.bN<|.tN<|.rg<|.yw (.add Z Z (w6 (by omega)))<|.mv Z<|.nt<|.ag (x:=(k,H1,r,xs)) (k+1,H3,r47,xs++[.int .u8 kd.toNat,aB nm,aB hd,.slice pX ex.length cX,.slice q24 th.length d24,.slice q27 el.length d27]) ⟨rfl,rfl,trivial⟩ ⟨rfl,rfl,trivial⟩ (fun _ s=>(s.pick [3] _ Z Z)) ⟨by dsimp only;omega,u1.trans uX,by dsimp only;rw [bK hk,hx,List.map_append];exact (hz.up uX.up).snoc (dG (by omega) (by omega) hX hy24X hy27X) Z⟩ (by dsimp only;omega)
 try simp only [df] at h12
 obtain rfl:k=l.length:=by omega
 rw [List.take_length] at hz;refine .ex<|.tE<|.tE<|.bE<|.tN<|.sr<|.mv Z<|.a Z Z<|.nt<|.rt<|?_
 refine Sx.freezeSeq (ds:=l.map (dSm .u8)) (by simp) hz fun HZ pZ cZ uZ eZ hZ=>?_;exact Sx.ret1 (.inl rfl) rfl (.tmp rfl) fun W t=>⟨r,HZ,hZ,rfl,(u1.trans uZ).grow t⟩
set_option maxHeartbeats 2000000 in
theorem IT (N:Nat) (hN:N≤1000000) (H:Hp) (f:Ft) (hok:TR N f) (cs:List Value) (w:World) (h:Rep H (dFt .i64 f) cs) (hA:Agr H w) :
 Calls Tryz.prog 34 #[.agg cs.toArray] w fun r w'=>∃ (y:List Value) (H':Hp),Rep H' (dFt .u8 f) y∧r=.returned (.agg y.toArray)∧mS H w H' w':=by
 obtain ⟨p1,c1,p2,c2,p3,c3,rfl,nf,k1,k2,k3⟩:=lK h;have hcap1:=k1.cap;have hcap2:=k2.cap;have hcap3:=k3.cap;have hfl:=hok.flags;have hll:=hok.links;have hcl:=hok.comps;refine Sx.enter (H:=H) Tryz.func34 rfl Tryz.ntmps34 rfl hA ?_;refine .sr<|.bx Z Z Z fun b1=>.al Fx.zero49 Z fun b2=>.ns<|.yw (.fieldAddr Z Fx.field85_0)<|.yw (.load Z Fx.agg9 aW Z)<|.yw (.build Z (Fx.bld49_0 _))<|.al Fx.zero49 Z fun b3=>.sW .head Z Z Fx.size49 (by simp [Value.oneCell',aB]) Z<|.nt<|.sq<|.sr<|.yw (.fieldAddr Z Fx.field85_1)<|.yw (.load Z Fx.agg81 cC Z)<|.yw (.lenSl Fx.sl81 Z)<|.mv Z<|?_
 refine Sx.row0 102 2 ?_;refine .nt<|.bk<|.lp (X:=Nat × Value × List Value) [(1,_),(2,_),(3,_),(22,_),(23,_)] ⟨rfl,rfl,rfl,rfl,rfl,trivial⟩ [_,_] (fun z=>[(24,.int .i64 (z.1:Nat))]) (fun z=>H) (fun z=>[.row 102 2 z.2.1 z.1 z.2.2,.box b3 [aB f.nm,z.2.1,.slice none 0 0,.slice none 0 0] 49]) (fun z=>z.1≤f.flags.length∧aL H 2 ((f.flags.take z.1).map dFg) z.2.2) (fun z=>f.flags.length - z.1) (0,.slice none 0 0,[]) (fun _ s=>s) ⟨rfl,trivial⟩ ⟨by simp,aL.nil⟩ fun z hC=>?_
 obtain ⟨k,r,xs⟩:=z;dsimp only at hC ⊢;obtain ⟨hk0,hz⟩:=hC;refine .sr<|.yw (.lss Z Z)<|.nt<|.sq<|.cd Z (fun h25=>?_) (fun h25=>?_)
 ·try simp only [dt] at h25
  have hk:k<f.flags.length:=by omega
  obtain ⟨bE,oE,cE,hpE,rE,lE,mE⟩:=k1.elem (bB (f:=dFg) hk);cases hpE;generalize hx:f.flags[k]=x at rE;obtain ⟨rfl,nx⟩:=AK rE;exact .sk<|.tN<|.sq<|.bk<|.sr<|.yw (.indexSl Fx.sl81 Z Z Z (by omega) (q:=oE+k * 2) Z)<|.yw (.loadMW Z Fx.agg141 mE Z)<|.al Fx.zero141 Z fun b5=>.sW .head Z Z Fx.size141 (by simp [Value.oneCell',aB]) Z<|.nt<|.rg<|.yw (.fieldAddr Z Fx.field49_1)<|.yw (.load Z Fx.agg45 cC Z)<|.yw (.fieldAddr Z Fx.field141_0)<|.yw (.load Z Fx.agg9 (.head _) Z)<|.yw (.fieldAddr Z Fx.field141_1)<|.yw (.load Z Fx.agg4 (.head _) Z)<|.yw (.build Z (Fx.bld102_0_1 _ _))<|.bl Z (Fx.bsl45_1 _ _) Z fun b35=>.ap (news:=[aB x.nm,.bool x.init]) Fx.row45 Z (fun _=>cJ) Z (.box (.head _) z0) Z (by simp [Value.oneCell',aB]) (by simp [maxLen];omega) (by omega) Z fun r36 _=>.ra cC fun p36 c36 e36=>.yw (.fieldAddr Z Fx.field49_1)<|.st fQ Z Z Fx.size45 (by rw [e36];rfl) (nb Z) Z<|.nl<|.bN<|.tN<|.rg<|.yw (.add Z Z (w6 (by omega)))<|.mv Z<|.nt<|.ag (x:=(k,r,xs)) (k+1,r36,xs++[aB x.nm,.bool x.init]) ⟨rfl,trivial⟩ ⟨rfl,rfl,rfl,rfl,rfl,trivial⟩ (fun _ s=>(s.pick [2,3,4,5] _ Z Z)) ⟨by dsimp only;omega,by dsimp only;rw [bK hk,hx,List.map_append];exact hz.snoc (AJ (x:=x) nx) Z⟩ (by dsimp only;omega)
 try simp only [df] at h25
 obtain rfl:k=f.flags.length:=by omega
 rw [List.take_length] at hz;refine Sx.freezeSeq (ds:=f.flags.map dFg) (by simp) hz fun H4 p4 c4 u4 e4 h4=>?_;subst e4;refine .ex<|.tE<|.tE<|.bE<|.tN<|.sq<|.sr<|.yw (.fieldAddr Z Fx.field85_2)<|.yw (.load Z Fx.agg82 cC Z)<|.yw (.lenSl Fx.sl82 Z)<|.mv Z<|?_
 refine Sx.row0 105 3 ?_;have k24:=k2.up u4.up;refine .nt<|.bk<|.lp (X:=Nat × Value × List Value) [(1,_),(2,_),(3,_),(40,_),(41,_)] ⟨rfl,rfl,rfl,rfl,rfl,trivial⟩ [_,_] (fun z=>[(42,.int .i64 (z.1:Nat))]) (fun z=>H4) (fun z=>[.row 105 3 z.2.1 z.1 z.2.2,.box b3 [aB f.nm,.slice p4 f.flags.length c4,z.2.1,.slice none 0 0] 49]) (fun z=>z.1≤f.links.length∧aL H4 3 ((f.links.take z.1).map dLk) z.2.2) (fun z=>f.links.length - z.1) (0,.slice none 0 0,[]) (fun _ s=>s) ⟨rfl,trivial⟩ ⟨by simp,aL.nil⟩ fun z hC=>?_
 obtain ⟨k,r,xs⟩:=z;dsimp only at hC ⊢;obtain ⟨hk0,hz⟩:=hC;refine .sr<|.yw (.lss Z Z)<|.nt<|.sq<|.cd Z (fun h43=>?_) (fun h43=>?_)
 ·try simp only [dt] at h43
  have hk:k<f.links.length:=by omega
  obtain ⟨bE,oE,cE,hpE,rE,lE,mE⟩:=k24.elem (bB (f:=dLk) hk);cases hpE;generalize hx:f.links[k]=x at rE;obtain ⟨rfl,nx,nx2⟩:=tS rE;exact .sk<|.tN<|.sq<|.bk<|.sr<|.yw (.indexSl Fx.sl82 Z Z Z (by omega) (q:=oE+k * 3) Z)<|.yw (.loadMW Z Fx.agg142 mE Z)<|.al Fx.zero142 Z fun b7=>.sW .head Z Z Fx.size142 (by simp [Value.oneCell',aB]) Z<|.nt<|.rg<|.yw (.fieldAddr Z Fx.field49_2)<|.yw (.load Z Fx.agg46 cC Z)<|.yw (.fieldAddr Z Fx.field142_0)<|.yw (.load Z Fx.agg9 (.head _) Z)<|.yw (.fieldAddr Z Fx.field142_1)<|.yw (.load Z Fx.agg9 (.head _) Z)<|.yw (.fieldAddr Z Fx.field142_2)<|.yw (.load Z Fx.agg3 (.head _) Z)<|.yw (.build Z (Fx.bld105_0_1_2 _ _ _))<|.bl Z (Fx.bsl46_1 _ _ _) Z fun b55=>.ap (news:=[aB x.fr,aB x.to,.int .i64 x.lat.toInt]) Fx.row46 Z (fun _=>cJ) Z (.box (.head _) z0) Z (by simp [Value.oneCell',aB]) (by simp [maxLen];omega) (by omega) Z fun r56 _=>.ra cC fun p56 c56 e56=>.yw (.fieldAddr Z Fx.field49_2)<|.st fQ Z Z Fx.size46 (by rw [e56];rfl) (nb Z) Z<|.nl<|.bN<|.tN<|.rg<|.yw (.add Z Z (w6 (by omega)))<|.mv Z<|.nt<|.ag (x:=(k,r,xs)) (k+1,r56,xs++[aB x.fr,aB x.to,.int .i64 x.lat.toInt]) ⟨rfl,trivial⟩ ⟨rfl,rfl,rfl,rfl,rfl,trivial⟩ (fun _ s=>(s.pick [2,3,4,5] _ Z Z)) ⟨by dsimp only;omega,by dsimp only;rw [bK hk,hx,List.map_append];exact hz.snoc (zX (x:=x) nx nx2) Z⟩ (by dsimp only;omega)
 try simp only [df] at h43
 obtain rfl:k=f.links.length:=by omega
 rw [List.take_length] at hz;refine Sx.freezeSeq (ds:=f.links.map dLk) (by simp) hz fun H5 p5 c5 u5 e5 h5=>?_;subst e5;refine .ex<|.tE<|.tE<|.bE<|.tN<|.sq<|.sr<|.yw (.fieldAddr Z Fx.field85_3)<|.yw (.load Z Fx.agg83 cC Z)<|.yw (.lenSl Fx.sl83 Z)<|.mv Z<|?_
 refine Sx.row0 110 3 ?_;have k35:=k3.up (u4.trans u5).up;have h45:=h4.up u5.up;refine .nt<|.bk<|.lp (X:=Nat × Hp × Value × List Value) [(2,_),(3,_),(60,_),(61,_)] ⟨rfl,rfl,rfl,rfl,trivial⟩ [_,_] (fun z=>[(62,.int .i64 (z.1:Nat))]) (fun z=>z.2.1) (fun z=>[.row 110 3 z.2.2.1 z.1 z.2.2.2,.box b3 [aB f.nm,.slice p4 f.flags.length c4,.slice p5 f.links.length c5,z.2.2.1] 49]) (fun z=>z.1≤f.comps.length∧HUp w H5 z.2.1∧aL z.2.1 3 ((f.comps.take z.1).map (dCp .u8)) z.2.2.2) (fun z=>f.comps.length - z.1) (0,H5,.slice none 0 0,[]) (fun _ s=>s) ⟨rfl,trivial⟩ ⟨by simp,.refl,aL.nil⟩ fun z hC=>?_
 obtain ⟨k,Ha,rc,xs⟩:=z;dsimp only at hC ⊢;obtain ⟨hk0,ua,hz⟩:=hC;refine .sr<|.yw (.lss Z Z)<|.nt<|.sq<|.cd Z (fun h63=>?_) (fun h63=>?_)
 ·try simp only [dt] at h63
  have hk:k<f.comps.length:=by omega
  obtain ⟨bE,oE,cE,hpE,rE,lE,mE⟩:=(k35.up ua.up).elem (bB (f:=dCp .i64) hk);cases hpE;have okc:=hok.all _ (List.getElem_mem hk);generalize hx:f.comps[k]=x at rE okc;obtain ⟨q1,d1,q2,d2,rfl,nx,g1,g2⟩:=oZ rE;have hcv:=g1.cap;have hcr:=g2.cap;have hvl:=okc.vars;have hrl:=okc.vers;refine .sk<|.tN<|.sq<|.bk<|.sr<|.yw (.indexSl Fx.sl83 Z Z Z (by omega) (q:=oE+k * 3) Z)<|.yw (.loadMW Z Fx.agg146 mE Z)<|.al Fx.zero146 Z fun b9=>.sW .head Z Z Fx.size146 (by simp [Value.oneCell',aB]) Z<|.ns<|.yw (.fieldAddr Z Fx.field146_0)<|.yw (.load Z Fx.agg9 (.head _) Z)<|.yw (.build Z (Fx.bld110_0 _))<|.al Fx.zero110 Z fun b10=>.sW .head Z Z Fx.size110 (by simp [Value.oneCell',aB]) Z<|.nt<|.sq<|.sr<|.yw (.fieldAddr Z Fx.field146_1)<|.yw (.load Z Fx.agg143 aW Z)<|.yw (.lenSl Fx.sl143 Z)<|.mv Z<|?_
  refine Sx.row0 151 3 ?_;refine .nt<|.bk<|.lp (X:=Nat × Value × List Value) [(2,_),(3,_),(9,_),(10,_),(60,_),(61,_),(62,_),(70,_),(71,_)] ⟨rfl,rfl,rfl,rfl,rfl,rfl,rfl,rfl,rfl,trivial⟩ [_,_,_,_,_] (fun z=>[(72,.int .i64 (z.1:Nat))]) (fun z=>Ha) (fun z=>[.row 151 3 z.2.1 z.1 z.2.2,.box b10 [aB x.nm,z.2.1,.slice none 0 0] 110]) (fun z=>z.1≤x.vars.length∧aL Ha 3 ((x.vars.take z.1).map (dVr .u8)) z.2.2) (fun z=>x.vars.length - z.1) (0,.slice none 0 0,[]) (fun _ s=>s) ⟨rfl,trivial⟩ ⟨by simp,aL.nil⟩ fun z hC=>?_
  obtain ⟨j,rv,ys⟩:=z;dsimp only at hC ⊢;obtain ⟨hj0,hzv⟩:=hC;refine .sr<|.yw (.lss Z Z)<|.nt<|.sq<|.cd Z (fun h73=>?_) (fun h73=>?_)
  ·try simp only [dt] at h73
   have hj:j<x.vars.length:=by omega
   obtain ⟨bF,oF,cF,hpF,rF,lF,mF⟩:=g1.elem (bB (f:=dVr .i64) hj);cases hpF;generalize hv:x.vars[j]=v at rF;obtain ⟨rfl,nv⟩:=qJ rF;exact .sk<|.tN<|.sq<|.bk<|.sr<|.yw (.indexSl Fx.sl143 Z Z Z (by omega) (q:=oF+j * 3) Z)<|.yw (.loadMW Z Fx.agg148 mF Z)<|.al Fx.zero148 Z fun b12=>.sW .head Z Z Fx.size148 (by simp [Value.oneCell',aB]) Z<|.nt<|.rg<|.yw (.fieldAddr Z Fx.field110_1)<|.yw (.load Z Fx.agg107 cC Z)<|.yw (.fieldAddr Z Fx.field148_0)<|.yw (.load Z Fx.agg9 (.head _) Z)<|.yw (.fieldAddr Z Fx.field148_1)<|.yw (.load Z Fx.agg3 (.head _) Z)<|.yw (.conv Z Fx.int3 Fx.int149 (c:=(v.ty.toNat:Nat)) (by have:=v.ty.toNat_lt;simp only [IntKind.wrap,IntKind.signed,IntKind.bits];simp;omega))<|.yw (.fieldAddr Z Fx.field148_2)<|.yw (.load Z Fx.agg2 (.head _) Z)<|.yw (.build Z (Fx.bld151_0_1_2 _ _ _))<|.bl Z (Fx.bsl107_1 _ _ _) Z fun b86=>.ap (news:=[aB v.nm,.int .u8 v.ty.toNat,.int .i64 v.init.toInt]) Fx.row107 Z (fun _=>cJ) Z (.box (.head _) z0) Z (by simp [Value.oneCell',aB]) (by simp [maxLen];omega) (by omega) Z fun r87 _=>.ra cC fun p87 c87 e87=>.yw (.fieldAddr Z Fx.field110_1)<|.st fQ Z Z Fx.size107 (by rw [e87];rfl) (nb Z) Z<|.nl<|.bN<|.tN<|.rg<|.yw (.add Z Z (w6 (by omega)))<|.mv Z<|.nt<|.ag (x:=(j,rv,ys)) (j+1,r87,ys++[aB v.nm,.int .u8 v.ty.toNat,.int .i64 v.init.toInt]) ⟨rfl,trivial⟩ ⟨rfl,rfl,rfl,rfl,rfl,rfl,rfl,rfl,rfl,trivial⟩ (fun _ s=>(s.pick [2,3,4,5,6,7,8] _ Z Z)) ⟨by dsimp only;omega,by dsimp only;rw [bK hj,hv,List.map_append];exact hzv.snoc (qI (x:=v) nv) Z⟩ (by dsimp only;omega)
  try simp only [df] at h73
  obtain rfl:j=x.vars.length:=by omega
  rw [List.take_length] at hzv;refine Sx.freezeSeq (ds:=x.vars.map (dVr .u8)) (by simp) hzv fun HV pV cV uV eV hV=>?_;subst eV;refine .ex<|.tE<|.tE<|.bE<|.tN<|.sq<|.sr<|.yw (.fieldAddr Z Fx.field146_2)<|.yw (.load Z Fx.agg144 aW Z)<|.yw (.lenSl Fx.sl144 Z)<|.mv Z<|?_
  refine Sx.row0 155 1 ?_;refine .nt<|.bk<|.lp (X:=Nat × Hp × Value × List Value) [(2,_),(3,_),(10,_),(60,_),(61,_),(62,_),(91,_),(92,_)] ⟨rfl,rfl,rfl,rfl,rfl,rfl,rfl,rfl,trivial⟩ [_,_,_,_,_] (fun z=>[(93,.int .i64 (z.1:Nat))]) (fun z=>z.2.1) (fun z=>[.row 155 1 z.2.2.1 z.1 z.2.2.2,.box b10 [aB x.nm,.slice pV x.vars.length cV,z.2.2.1] 110]) (fun z=>z.1≤x.vers.length∧HUp w HV z.2.1∧aL z.2.1 1 ((x.vers.take z.1).map (dVs .u8)) z.2.2.2) (fun z=>x.vers.length - z.1) (0,HV,.slice none 0 0,[]) (fun _ s=>s) ⟨rfl,trivial⟩ ⟨by simp,.refl,aL.nil⟩ fun z hC=>?_
  obtain ⟨i,Hb,rs,ws⟩:=z;dsimp only at hC ⊢;obtain ⟨hi0,ub,hzs⟩:=hC;refine .sr<|.yw (.lss Z Z)<|.nt<|.sq<|.cd Z (fun h94=>?_) (fun h94=>?_)
  ·try simp only [dt] at h94
   have hi:i<x.vers.length:=by omega
   obtain ⟨bG,oG,cG,hpG,rG,lG,mG⟩:=(g2.up (uV.trans ub).up).elem (bB (f:=dVs .i64) hi);cases hpG;have okv:=okc.all _ (List.getElem_mem hi);generalize hxv:x.vers[i]=v at rG okv;obtain ⟨pv,cv,rfl,gv⟩:=tH rG;have hcw:=gv.cap;have hwl:=okv.len;refine .sk<|.tN<|.sq<|.bk<|.sr<|.yw (.indexSl Fx.sl144 Z Z (i:=i) Z hi (q:=oG+i * 1) Z)<|.yw (.loadM Z Fx.agg152 mG (k:=0) Z Z)<|.a Z Z<|.ns<|.al Fx.zero155 Z fun b15=>.nt<|.sq<|.sr<|.mv Z<|.yw (.lenSl Fx.sl152 Z)<|.mv Z<|?_
   refine Sx.row0 162 3 ?_;refine .nt<|.bk<|.lp (X:=Nat × Hp × Value × List Value) [(2,_),(3,_),(10,_),(15,_),(60,_),(61,_),(62,_),(91,_),(92,_),(93,_),(97,_),(98,_)] ⟨rfl,rfl,rfl,rfl,rfl,rfl,rfl,rfl,rfl,rfl,rfl,rfl,trivial⟩ [_,_,_,_,_,_,_] (fun z=>[(99,.int .i64 (z.1:Nat))]) (fun z=>z.2.1) (fun z=>[.row 162 3 z.2.2.1 z.1 z.2.2.2,.box b15 [z.2.2.1] 155]) (fun z=>z.1≤v.length∧HUp w Hb z.2.1∧aL z.2.1 3 ((v.take z.1).map (dHd .u8)) z.2.2.2) (fun z=>v.length - z.1) (0,Hb,.slice none 0 0,[]) (fun _ s=>s) ⟨rfl,trivial⟩ ⟨by simp,.refl,aL.nil⟩ fun z hC=>?_
   obtain ⟨j,Hc,rh,zs⟩:=z;dsimp only at hC ⊢;obtain ⟨hj0,uc,hzh⟩:=hC;refine .sr<|.yw (.lss Z Z)<|.nt<|.sq<|.cd Z (fun h100=>?_) (fun h100=>?_)
   ·try simp only [dt] at h100
    have hj:j<v.length:=by omega
    obtain ⟨bI,oI,cI,hpI,rI,lI,mI⟩:=(gv.up uc.up).elem (bB (f:=dHd .i64) hj);cases hpI;have okh:=okv.all _ (List.getElem_mem hj);generalize hxh:v[j]=y at rI okh;obtain ⟨t1,w1,t2,w2,rfl,ny,m1,m2⟩:=oW rI;have hyl:=okh.ps;refine .sk<|.tN<|.sq<|.bk<|.sr<|.yw (.indexSl Fx.sl152 Z Z Z (by omega) (q:=oI+j * 3) Z)<|.yw (.loadMW Z Fx.agg158 mI Z)<|.al Fx.zero158 Z fun b17=>.sW .head Z Z Fx.size158 (by simp [Value.oneCell',aB]) Z<|.nt<|?_
    refine Sx.row0 9 1 ?_;refine .fL 12 [(0,0),(1,0),(2,0),(3,0),(4,0),(5,0),(7,0),(8,0),(6,3),(9,1),(10,0),(11,1)]<|.yw (.fieldAddr Z Fx.field155_0)<|.yw (.load Z Fx.agg153 gN Z)<|.yw (.fieldAddr Z Fx.field158_0)<|.yw (.load Z Fx.agg9 aW Z)<|.yw (.fieldAddr Z Fx.field158_1)<|.yw (.load Z Fx.agg52 aW Z)<|.yw (.fieldAddr Z Fx.field158_2)<|.yw (.load Z Fx.agg156 aW Z)<|.apD0 Fx.row52 Z (fun _ _=>.head) Z m1 (by simp [maxLen];omega) (by omega) Z (fun _ _=>(.yv (.load Z Fx.agg156 aW Z)<|.yv (.fieldAddr Z Fx.field158_2)<|.dn<|.dn<|.yv (.load Z Fx.agg9 aW Z)<|.yv (.fieldAddr Z Fx.field158_0)<|.yv (.load Z Fx.agg153 gN Z)<|.yv (.fieldAddr Z Fx.field155_0)<|.nl)) fun xs109 p109 c109 hz109=>.ct (X:=Value) Fx.call60 Z (fun W t=>PB N hN y.body okh.body Hc _ W m2 t.agr) Z fun y112 H112 hy112 u112=>?_
    obtain ⟨pB,cB,eB,_⟩:=hy112.sl;simp only [List.cons.injEq,and_true,List.length_map] at eB;subst eB;refine .yw (.build Z (Fx.bld162_0_1_2 _ _ _ _ _ _ _))<|.bl Z (Fx.bsl153_1 _ _ _) Z fun b114=>.fn (tl:=[_,_,_]) Z<|.ap (news:=[aB y.nm,.slice p109 y.ps.length c109,.slice pB y.body.length cB]) Fx.row153 Z (fun _=>fQ) Z (.box (.head _) z0) Z (by simp [Value.oneCell',aB]) (by simp [maxLen];omega) (by omega) Z fun r115 _=>.ra gN fun p115 c115 e115=>.yw (.fieldAddr Z Fx.field155_0)<|.st EB Z Z Fx.size153 (by rw [e115];rfl) (nb Z) Z<|?_
    refine At.pm [1,0,2,3,4,5,6,7,8,9,10,11] [_,_,_,_,_,_,_,_,_,_,_,_] rfl rfl ?_;refine Sx.freezeSeq (ds:=y.ps.map iM) (by simp) (aL.up u112.up hz109) fun HP pP cP uP eP hP=>?_;injection eP with eP1 _ eP2
    subst eP1;subst eP2;exact .nl<|.bN<|.tN<|.rg<|.yw (.add Z Z (w6 (by omega)))<|.mv Z<|.nt<|.ag (x:=(j,Hc,rh,zs)) (j+1,HP,r115,zs++[aB y.nm,.slice p109 y.ps.length c109,.slice pB y.body.length cB]) ⟨rfl,trivial⟩ ⟨rfl,rfl,rfl,rfl,rfl,rfl,rfl,rfl,rfl,rfl,rfl,rfl,trivial⟩ (fun _ s=>(s.pick [2,3,4,5,6,7,8,9,10] _ Z Z)) ⟨by dsimp only;omega,uc.trans (u112.trans uP),by dsimp only;rw [bK hj,hxh,List.map_append];exact (hzh.up (u112.trans uP).up).snoc (AE (x:=y) ny hP (hy112.up uP.up)) Z⟩ (by dsimp only;omega)
   try simp only [df] at h100
   obtain rfl:j=v.length:=by omega
   rw [List.take_length] at hzh;refine Sx.freezeSeq (ds:=v.map (dHd .u8)) (by simp) hzh fun HH pH cH uH eH hH=>?_;subst eH;have uh:=uc.trans uH;exact .ex<|.tE<|.tE<|.bE<|.tN<|.rg<|.yw (.fieldAddr Z Fx.field110_2)<|.yw (.load Z Fx.agg108 cC Z)<|.yw (.loadW Z Fx.agg155 (.head _) Z)<|.bl Z (Fx.bsl108_1 _) Z fun b121=>.ap (news:=[.slice pH v.length cH]) Fx.row108 Z (fun _=>cJ) Z (.box (.head _) z0) Z (by simp [Value.oneCell',aB]) (by simp [maxLen];omega) (by omega) Z fun r122 _=>.ra cC fun p122 c122 e122=>.yw (.fieldAddr Z Fx.field110_2)<|.st fQ Z Z Fx.size108 (by rw [e122];rfl) (nb Z) Z<|.nl<|.bN<|.tN<|.rg<|.yw (.add Z Z (w6 (by omega)))<|.mv Z<|.nt<|.ag (x:=(i,Hb,rs,ws)) (i+1,HH,r122,ws++[.slice pH v.length cH]) ⟨rfl,trivial⟩ ⟨rfl,rfl,rfl,rfl,rfl,rfl,rfl,rfl,trivial⟩ (fun _ s=>(s.pick [2,3,4,5,6,7,8] _ Z Z)) ⟨by dsimp only;omega,ub.trans uh,by dsimp only;rw [bK hi,hxv,List.map_append];exact (hzs.up uh.up).snoc hH Z⟩ (by dsimp only;omega)
  try simp only [df] at h94
  obtain rfl:i=x.vers.length:=by omega
  rw [List.take_length] at hzs;refine Sx.freezeSeq (ds:=x.vers.map (dVs .u8)) (by simp) hzs fun HS pS cS uS eS hS=>?_;subst eS;have uX:=uV.trans (ub.trans uS);have hVX:=hV.up (ub.trans uS).up;exact .ex<|.tE<|.tE<|.bE<|.tN<|.rg<|.yw (.fieldAddr Z Fx.field49_3)<|.yw (.load Z Fx.agg47 gN Z)<|.yw (.loadW Z Fx.agg110 (.head _) Z)<|.bl Z (Fx.bsl47_1 _ _ _) Z fun b128=>.ap (news:=[aB x.nm,.slice pV x.vars.length cV,.slice pS x.vers.length cS]) Fx.row47 Z (fun _=>fQ) Z (.box (.head _) z0) Z (by simp [Value.oneCell',aB]) (by simp [maxLen];omega) (by omega) Z fun r129 _=>.ra gN fun p129 c129 e129=>.yw (.fieldAddr Z Fx.field49_3)<|.st EB Z Z Fx.size47 (by rw [e129];rfl) (nb Z) Z<|.nl<|.bN<|.tN<|.rg<|.yw (.add Z Z (w6 (by omega)))<|.mv Z<|.nt<|.ag (x:=(k,Ha,rc,xs)) (k+1,HS,r129,xs++[aB x.nm,.slice pV x.vars.length cV,.slice pS x.vers.length cS]) ⟨rfl,trivial⟩ ⟨rfl,rfl,rfl,rfl,trivial⟩ (fun _ s=>(s.pick [3,4,5,6] _ Z Z)) ⟨by dsimp only;omega,ua.trans uX,by dsimp only;rw [bK hk,hx,List.map_append];exact (hz.up uX.up).snoc (uA (x:=x) nx hVX hS) Z⟩ (by dsimp only;omega)
 try simp only [df] at h63
 obtain rfl:k=f.comps.length:=by omega
 rw [List.take_length] at hz;refine Sx.freezeSeq (ds:=f.comps.map (dCp .u8)) (by simp) hz fun HZ pZ cZ uZ eZ hZ=>?_;subst eZ;refine .ex<|.tE<|.tE<|.bE<|.tN<|.sr<|.yw (.loadW Z Fx.agg49 (.head _) Z)<|.sW bQ Z Z Fx.size49 (by simp [Value.oneCell',aB]) Z<|.nt<|.rt<|?_
 exact Sx.ret1 (.inl rfl) rfl (.cell rfl Fx.agg49 aW rfl) fun W t=>⟨_,HZ,tX (x:=f) nf (h45.up (ua.trans uZ).up) (h5.up (ua.trans uZ).up) hZ,rfl,(u4.trans (u5.trans (ua.trans uZ))).grow t⟩
theorem EE (N:Nat) (hN:N≤1000000) (H:Hp) (f:Ft) (hok:CL N f) (cs:List Value) (w:World) (h:Rep H (dFt .i64 f) cs) (hA:Agr H w) :
 Calls Tryz.prog 34 #[.agg cs.toArray] w fun r w'=>∃ (y:List Value) (H':Hp),Rep H' (dFt .u8 f) y∧r=.returned (.agg y.toArray)∧mS H w H' w':=IT N hN H f hok.sy cs w h hA
end Go.Proofs.YthhoebdlfjffkaaGreatDoor
namespace Go.Proofs.YthhoebdlfjffkaaGreatDoor
section
variable {α:Type} {N:Nat} {p:Pz α} {ok:α→Prop}
end
section
variable {N:Nat} {b:Pz (List Sm)}
end
end Go.Proofs.YthhoebdlfjffkaaGreatDoor
namespace Go.Proofs.YthhoebdlfjffkaaGreatDoor
open Go.RowKit Go.Par Go.Sx
theorem Fx.call34:aM Tryz.prog 34=Bool.true:=by kernel_rfl
def zF:Ft:=⟨[],[],[],[]⟩
theorem TF {k:IntKind} (H:Hp):Rep H (dFt k zF) [.string ⟨#[]⟩,.slice none 0 0,.slice none 0 0,.slice none 0 0]:=tX (x:=zF) (by decide) (Rep.empty (p:=none) (c:=0) (by decide)) (Rep.empty (p:=none) (c:=0) (by decide)) (Rep.empty (p:=none) (c:=0) (by decide))
noncomputable def pzT (t:Str) (a:Ft):Ft:=if (sgZ gFt t).e=0∧bU a=0 then a else zF
theorem zG {H:Hp} {t:Str} {a:Ft} {cs:List Value} (h:Rep H (dFt .u8 a) cs):Rep H (dFt .u8 (pzT t a)) (pzR t a cs):=by
 unfold pzT pzR
 split
 ·exact h
 ·exact TF H
end Go.Proofs.YthhoebdlfjffkaaGreatDoor
/- Plain: expressions in additional parentheses, and with all parentheses, are read back. -/
namespace Go.Proofs.YthhoebdlfjffkaaGreatDoor
end Go.Proofs.YthhoebdlfjffkaaGreatDoor
/- Plain: expressions with all parentheses are read back: the cases beside two operands. -/
namespace Go.Proofs.YthhoebdlfjffkaaGreatDoor
end Go.Proofs.YthhoebdlfjffkaaGreatDoor
/- Plain: an expression with all parentheses is read back. -/
namespace Go.Proofs.YthhoebdlfjffkaaGreatDoor
end Go.Proofs.YthhoebdlfjffkaaGreatDoor
/- Plain: the text of an expression with all parentheses has its tokens. -/
namespace Go.Proofs.YthhoebdlfjffkaaGreatDoor
end Go.Proofs.YthhoebdlfjffkaaGreatDoor
namespace Go.Proofs.YthhoebdlfjffkaaGreatDoor
theorem sX {f:Ft} (h:bU f=0) {l:List Tk} (hl:l.map kt=ftK f):gFt l=.ok f []:=by
 have:=Rdc.ft (C:=kJ) h l [] hl trivial;rw [List.append_nil] at this;exact this
theorem FE {f:Ft} (h:bU f=0) {l:List Tk} {m:Nat} (hm:m<(ftK f).length) (hl:l.map kt=(ftK f).take m):gFt l=.er [] 8:=by
 have hk:(((ftK f).drop m).map fun x=>(⟨x.1,x.2,0⟩:Tk)).map kt=(ftK f).drop m:=by
  rw [List.map_map];simp [kt,Function.comp_def]
 have hr:=sX h (l:=l++((ftK f).drop m).map fun x=>(⟨x.1,x.2,0⟩:Tk)) (by rw [List.map_append,hl,hk,List.take_append_drop]);refine OB hr rfl fun e=>?_;have:=congrArg List.length e;rw [List.length_map,List.length_drop] at this;simp only [List.length_nil] at this;omega
theorem RU {f:Ft} (h:bU f=0) {t:Str} {m:Nat} (ht:t.length≤20000) (hm:m<(ftK f).length) (hl:(fH t).map kt=(ftK f).take m):sgZ gFt t=⟨[],8,t.length⟩:=by
 have h0:sg0 t=⟨fH t,0,0⟩:=by unfold sg0;rw [if_neg (by omega)]
 have hu:up t.length gFt (sg0 t)=⟨[],8,t.length⟩:=by
  rw [h0];unfold up;rw [if_pos rfl,FE h hm hl]
  rfl
 unfold sgZ;rw [hu];unfold Sg.cl;rw [if_pos rfl]
theorem KM {f:Ft} (h:bU f=0) {t:Str} {l r:List Tk} {x:Tk} (ht:t.length≤20000) (hl:fH t=l++x::r) (hk:l.map kt=ftK f):(sgZ gFt t).e=8∧(sgZ gFt t).o=x.o:=by
 have h0:sg0 t=⟨fH t,0,0⟩:=by unfold sg0;rw [if_neg (by omega)]
 have hu:up t.length gFt (sg0 t)=⟨x::r,0,0⟩:=by
  rw [h0];have e:gFt (fH t)=.ok f (x::r):=by rw [hl,HN (sX h hk)]
  unfold up;rw [if_pos rfl,e]
 unfold sgZ;rw [hu];exact ⟨rfl,rfl⟩
def tkA (o:Nat) (m:Str):List Tk:=toks (o+gI m) (m.drop (gI m))
theorem GG (s:Str):fH s=tkA 0 s:=by
 unfold tkA;rw [Nat.zero_add];exact xR s
theorem QB (o:Nat):tkA o []=[]:=by
 unfold tkA;rw [List.drop_nil,BH]
theorem JE {p m:Str} (h:cD false (p++m)=cD false m):gI (p++m)=p.length+gI m:=by
 unfold gI;have:=fE false m;rw [h,List.length_append];omega
theorem yY {o:Nat} {p m:Str} (h:cD false (p++m)=cD false m):tkA o (p++m)=tkA (o+p.length) m:=by
 unfold tkA;rw [JE h,← List.drop_drop,List.drop_left,Nat.add_assoc]
theorem GF {o:Nat} {x:Kt} {m:Str} (h:Tok x m):tkA o (x.2++m)=⟨x.1,x.2,o⟩::tkA (o+x.2.length) m:=by
 have e:gI (x.2++m)=0:=by unfold gI;rw [h.skip];omega
 have hne:x.2++m≠[]:=by intro e;exact h.ne (List.append_eq_nil_iff.1 e).1
 conv=>lhs;unfold tkA
 rw [e,List.drop_zero,Nat.add_zero,oD hne,h.read];simp only [List.take_left,List.drop_left]
 congr 1
 unfold tkA;rw [← List.drop_drop,List.drop_left]
theorem nL {c:UInt8} {r:Str} {k:UInt8} {n:Nat} (h:aI (c::r)=(k,n)) (h5:k≠5) :
 (iE c=true∧n=pre eE (c::r)∧(if words.contains ((c::r).take n) then (2:UInt8) else if n≤12 then 1 else 5)=k) ∨
 (iE c=false∧dU c=true∧n=pre dU (c::r)∧(n=1∨c≠48)∧k=3) ∨
 (iE c=false∧dU c=false∧k=4∧∃ y,symbols.find? (fun x=>x.isPrefixOf (c::r))=some y∧n=y.length):=by
 cases h1:iE c with
 | true =>
  refine .inl ⟨rfl,?_⟩;cases h4:words.contains ((c::r).take (pre eE (c::r))) with
  | true =>
   simp only [aI,List.headD_cons,h1,h4,if_true,Prod.mk.injEq] at h;obtain ⟨rfl,rfl⟩:=h;exact ⟨rfl,by rw [h4];rfl⟩
  | false =>
   by_cases h6:pre eE (c::r)≤12
   ·simp only [aI,List.headD_cons,h1,h4,h6,if_true,Bool.false_eq_true,if_false,Prod.mk.injEq] at h;obtain ⟨rfl,rfl⟩:=h;exact ⟨rfl,by rw [h4,if_neg (by decide),if_pos h6]⟩
   ·simp only [aI,List.headD_cons,h1,h4,h6,if_true,Bool.false_eq_true,if_false,Prod.mk.injEq] at h;exact absurd h.1.symm h5
 | false =>
  cases h4:dU c with
  | true =>
   by_cases h6:pre dU (c::r)=1∨c≠48
   ·simp only [aI,List.headD_cons,h1,h4,h6,if_true,Bool.false_eq_true,if_false,Prod.mk.injEq] at h;obtain ⟨rfl,rfl⟩:=h;exact .inr (.inl ⟨rfl,rfl,rfl,h6,rfl⟩)
   ·simp only [aI,List.headD_cons,h1,h4,h6,if_true,Bool.false_eq_true,if_false,Prod.mk.injEq] at h;exact absurd h.1.symm h5
  | false =>
   cases hx:symbols.find? (fun x=>x.isPrefixOf (c::r)) with
   | none =>
    simp only [aI,List.headD_cons,h1,h4,hx,Bool.false_eq_true,if_false,Prod.mk.injEq] at h;exact absurd h.1.symm h5
   | some y =>
    simp only [aI,List.headD_cons,h1,h4,hx,Bool.false_eq_true,if_false,Prod.mk.injEq] at h;obtain ⟨rfl,rfl⟩:=h;exact .inr (.inr ⟨rfl,rfl,rfl,y,rfl,rfl⟩)
theorem QA {c:UInt8} {t r:Str} (hsh:(c::t).length≤1000000) (hall:(c::t).all dU=true) (h2:t=[]∨c≠48) (hr:∀ d,r.head? = some d→dU d=false):Tok (3,c::t) r:=by
 have hp:pre dU ((c::t)++r)=(c::t).length:=mV hall hr;rw [List.all_cons,Bool.and_eq_true] at hall;have hb:=tZ c hall.1;refine ⟨by simp,?_,gA hb.1 (fun e=>hb.2.1 e.1),(show (3:UInt8)≠5 by decide),hsh⟩;show aI ((c::t)++r)=(3,(c::t).length);unfold aI;simp only;rw [show ((c::t)++r).headD 0=c from rfl,hb.2.2.2.2.2,if_neg (by decide),hall.1,if_pos rfl,hp];refine if_pos ?_;rcases h2 with rfl | h2
 ·exact .inl Z
 ·exact .inr h2
theorem iD {q:UInt8→Bool} {w r:Str} (h:pre q (w++r)=w.length):w.all q=true∧∀ d,r.head? = some d→q d=false:=by
 induction w with
 | nil =>
  refine ⟨rfl,fun d hd=>?_⟩;cases r with
  | nil=>cases hd
  | cons e r =>
   obtain rfl:e=d:=Option.some.inj hd;cases hq:q e with
   | false=>rfl
   | true =>
    rw [List.nil_append] at h;unfold pre at h;rw [List.takeWhile_cons,hq] at h;simp at h
 | cons a w ih =>
  rw [List.cons_append] at h;unfold pre at h;rw [List.takeWhile_cons] at h;cases hq:q a with
  | false=>rw [hq] at h;simp at h
  | true =>
   rw [hq] at h;have:=ih (by unfold pre;simpa using h);exact ⟨by rw [List.all_cons,hq,this.1];rfl,this.2⟩
theorem HY {c:UInt8} (h:eL c=true):eE c=false∧c≠46∧c≠61∧c≠62∧c≠47:=by
 revert h
 exact rK (Q:=fun c=>eL c=true→eE c=false∧c≠46∧c≠61∧c≠62∧c≠47) (by decide +kernel) c
theorem vG {d:UInt8} (hd:eL d=true):∀ {z w r:Str},z.all (fun c=>!eL c)=true→z.isPrefixOf (w++d::r)=z.isPrefixOf w
 | [],w,r,_=>by simp [List.isPrefixOf]
 | a::z,[],r,h=>by
  rw [List.all_cons,Bool.and_eq_true] at h;have:(a == d)=false:=beq_false_of_ne fun e=>by subst e;rw [hd] at h;simp at h
  simp [List.isPrefixOf,this]
 | a::z,b::w,r,h=>by
  rw [List.all_cons,Bool.and_eq_true] at h;simp only [List.cons_append,List.isPrefixOf];rw [vG hd h.2]
theorem wG {α:Type} {p q:α→Bool}:∀ {l:List α},(∀ x∈l,p x=q x)→l.find? p=l.find? q
 | [],_=>rfl
 | a::l,h=>by
  rw [List.find?_cons,List.find?_cons,h a (by simp),wG fun x hx=>h x (List.mem_cons_of_mem _ hx)]
theorem oH:∀ w∈symbols,w≠[]∧iE (w.headD 0)=false∧dU (w.headD 0)=false∧eL (w.headD 0)=false∧w.take 2≠[47,47]∧w.all (fun c=>!eL c)=true∧w.length≤2∧symbols.find? (fun x=>x.isPrefixOf w)=some w:=by decide +kernel
def RM (r:Str):Prop:=∀ d,r.head? = some d→eL d=true
theorem LK {w r:Str} (hw:w∈symbols) (hr:RM r):Tok (4,w) r:=by
 obtain ⟨h0,h1,h2,h3,h4,h5,h6,h7⟩:=oH w hw
 match w,h0 with
 | c::t,h0 =>
  have hf:symbols.find? (fun x=>x.isPrefixOf ((c::t)++r))=some (c::t):=by
   cases r with
   | nil=>rw [List.append_nil];exact h7
   | cons d r=>rw [← h7];exact wG fun x hx=>vG (hr d rfl) (oH x hx).2.2.2.2.2.1
  refine ⟨h0,?_,gA h3 ?_,(show (4:UInt8)≠5 by decide),(by show (c::t).length≤1000000;omega)⟩
  ·show aI ((c::t)++r)=(4,(c::t).length);unfold aI;simp only;rw [show ((c::t)++r).headD 0=c from rfl,show iE c=false from h1,show dU c=false from h2,hf];simp
  ·rintro ⟨rfl,h⟩;cases t with
   | nil =>
    cases r with
    | nil=>cases h
    | cons d r =>
     obtain rfl:d=47:=Option.some.inj h;exact absurd (hr 47 rfl) (by decide)
   | cons b t =>
    obtain rfl:b=47:=Option.some.inj h;exact h4 rfl
theorem RM.sep {r:Str} (h:RM r):jV r:=fun c hc=>HY (h c hc)
theorem Tok.gap {x:Kt} {r r':Str} (h:Tok x r) (hr:RM r'):Tok x r':=by
 obtain ⟨k,w⟩:=x;have hne:=h.ne
 match w,hne with
 | c::t,hne =>
  have hrd:aI (c::(t++r))=(k,(c::t).length):=h.read;have htk:(c::(t++r)).take (c::t).length=c::t:=by rw [← List.cons_append,List.take_left]
  rcases nL hrd h.k5 with ⟨h1,h2,h3⟩ | ⟨h1,h2,h3,h4,h5⟩ | ⟨h1,h2,h3,y,h4,h5⟩
  ·rw [htk] at h3;exact uQ hne h1 (iD (w:=c::t) (r:=r) h2.symm).1 h3 h.k5 hr.sep
  ·obtain rfl:k=3:=h5;refine QA h.sh (iD (w:=c::t) (r:=r) h3.symm).1 ?_ fun d hd=>HK d (hr.sep d hd).1;rcases h4 with h4 | h4
   ·left;cases t with
    | nil=>rfl
    | cons=>simp at h4
   ·exact .inr h4
  ·obtain rfl:k=4:=h3;have hm:=List.mem_of_find?_eq_some h4;have hpf:y.isPrefixOf (c::(t++r))=true:=by simpa using List.find?_some h4
   obtain ⟨u,hu⟩:=List.isPrefixOf_iff_prefix.1 hpf
   have:y=c::t:=by
    have e:=congrArg (List.take y.length) hu;rw [List.take_left,← h5,htk] at e;exact e
   subst this;exact LK hm hr
theorem ER {z a b:Str} (hz:z.length≤2) (h:a.take 2=b.take 2):z.isPrefixOf a=z.isPrefixOf b:=by
 have key:∀ (m:Str),z.isPrefixOf m=z.isPrefixOf (m.take 2):=by
  intro m
  match z,hz,m with
  | [],_,m=>simp [List.isPrefixOf]
  | [x],_,[]=>rfl
  | [x],_,[y]=>rfl
  | [x],_,y::u::m=>rfl
  | [x,x'],_,[]=>rfl
  | [x,x'],_,[y]=>rfl
  | [x,x'],_,y::u::m=>rfl
 rw [key a,key b,h]
theorem Tok.tail {x:Kt} {d:UInt8} {r r':Str} (h:Tok x (d::r)):Tok x (d::r'):=by
 obtain ⟨k,w⟩:=x;have hne:=h.ne
 match w,hne with
 | c::t,hne =>
  have hrd:aI (c::(t++d::r))=(k,(c::t).length):=h.read;have htk:(c::(t++d::r)).take (c::t).length=c::t:=by rw [← List.cons_append,List.take_left]
  have h2t:((c::t)++d::r).take 2=((c::t)++d::r').take 2:=by
   cases t with
   | nil=>rfl
   | cons b t=>rfl
  have hsk:cD false ((c::t)++d::r')=(c::t)++d::r':=by
   have h0:cD false (c::(t++d::r))=c::(t++d::r):=h.skip;rw [cD] at h0
   have hb:eL c=false:=by
    cases e:eL c with
    | false=>rfl
    | true =>
     rw [if_pos e] at h0;have h1:=congrArg List.length h0;have h2:=fE false (t++d::r);rw [List.length_cons] at h1;omega
   rw [if_neg (by rw [hb];decide)] at h0;refine gA hb fun e=>?_;have e2:(t++d::r').head? = (t++d::r).head? := by cases t <;> rfl
   have e1:c=47∧(t++d::r').head? = some 47:=e;rw [e2] at e1;rw [if_pos e1] at h0;have h1:=congrArg List.length h0;have h2:=fE true (t++d::r);rw [List.length_cons] at h1;omega
  refine ⟨h.ne,?_,hsk,h.k5,h.sh⟩;show aI ((c::t)++d::r')=(k,(c::t).length);rcases nL hrd h.k5 with ⟨h1,h2,h3⟩ | ⟨h1,h2,h3,h4,h5⟩ | ⟨h1,h2,h3,y,h4,h5⟩
  ·have ha:=iD (w:=c::t) (r:=d::r) h2.symm;have hp:pre eE ((c::t)++d::r')=(c::t).length:=mV ha.1 fun e he=>ha.2 e he;rw [htk] at h3;unfold aI;simp only;rw [show ((c::t)++d::r').headD 0=c from rfl,h1,if_pos rfl,hp,List.take_left]
   split at h3
   ·rename_i e;rw [if_pos e,← h3]
   ·rename_i e;rw [if_neg e]
    split at h3
    ·rename_i e2;rw [if_pos e2,← h3]
    ·exact absurd h3.symm h.k5
  ·obtain rfl:k=3:=h5;have ha:=iD (w:=c::t) (r:=d::r) h3.symm;have hp:pre dU ((c::t)++d::r')=(c::t).length:=mV ha.1 fun e he=>ha.2 e he;unfold aI;simp only;rw [show ((c::t)++d::r').headD 0=c from rfl,h1,if_neg (by decide),h2,if_pos rfl,hp];exact if_pos h4
  ·obtain rfl:k=4:=h3
   have hf:symbols.find? (fun x=>x.isPrefixOf ((c::t)++d::r'))=some y:=by
    rw [← h4];exact wG fun x hx=>ER (oH x hx).2.2.2.2.2.2.1 h2t.symm
   unfold aI;simp only;rw [show ((c::t)++d::r').headD 0=c from rfl,h1,h2,hf];simp [← h5]
theorem Tok.last {x:Kt} {r:Str} (h:Tok x r):∀ d,x.2.getLast? = some d→eL d=false:=by
 intro d hd;obtain ⟨k,w⟩:=x;have hm:d∈w:=List.mem_of_getLast? hd;have hne:=h.ne
 match w,hne with
 | c::t,hne =>
  have hrd:aI (c::(t++r))=(k,(c::t).length):=h.read;have htk:(c::(t++r)).take (c::t).length=c::t:=by rw [← List.cons_append,List.take_left]
  rcases nL hrd h.k5 with ⟨h1,h2,h3⟩ | ⟨h1,h2,h3,h4,h5⟩ | ⟨h1,h2,h3,y,h4,h5⟩
  ·have:=List.all_eq_true.1 (iD (w:=c::t) (r:=r) h2.symm).1 d hm;cases e:eL d with
   | false=>rfl
   | true=>rw [(HY e).1] at this;cases this
  ·have:=List.all_eq_true.1 (iD (w:=c::t) (r:=r) h3.symm).1 d hm;exact (tZ d this).1
  ·have hy:=List.mem_of_find?_eq_some h4;have hpf:y.isPrefixOf (c::(t++r))=true:=by simpa using List.find?_some h4
   obtain ⟨u,hu⟩:=List.isPrefixOf_iff_prefix.1 hpf
   have:y=c::t:=by
    have e:=congrArg (List.take y.length) hu;rw [List.take_left,← h5,htk] at e;exact e
   subst this;have:=List.all_eq_true.1 (oH _ hy).2.2.2.2.2.1 d hm;simpa using this
def WY (k:List Kt):Prop:=∀ x∈k,∃ r,Tok x r
theorem Lx.tokL {s:Str} {k:List Kt} (h:Lx s k):WY k:=by
 induction h with
 | nil=>intro x hx;cases hx
 | blk _ _ ih=>exact ih
 | @tok x s k ht _ ih =>
  intro y hy;rcases List.mem_cons.1 hy with rfl | hy
  ·exact ⟨_,ht⟩
  ·exact ih y hy
theorem Lx.size {s:Str} {k:List Kt} (h:Lx s k):(k.map fun x=>x.2.length).sum≤s.length∧k.length≤(k.map fun x=>x.2.length).sum:=by
 induction h with
 | nil=>simp
 | blk _ _ ih=>simp only [List.length_cons];omega
 | @tok x s k ht _ ih =>
  have:=List.length_pos_iff.2 ht.ne;simp only [List.map_cons,List.sum_cons,List.length_cons,List.length_append];omega
theorem Lx.more {s:Str} {k:List Kt} (h:Lx s k):∀ (o:Nat) (r:Str),(∀ d,s.getLast? = some d→eL d=true)→∃ l,tkA o (s++r)=l++tkA (o+s.length) r∧l.map kt=k:=by
 induction h with
 | nil=>intro o r _;exact ⟨[],rfl,rfl⟩
 | @blk c s k hc _ ih =>
  intro o r hl
  obtain ⟨l,h1,h2⟩:=ih (o+1) r fun d hd=>hl d (by
   cases s with
   | nil=>cases hd
   | cons a s=>rw [List.getLast?_cons_cons];exact hd)
  refine ⟨l,?_,h2⟩;have e:=yY (o:=o) (p:=[c]) (m:=s++r) (lV hc);rw [List.cons_append,show c::(s++r)=[c]++(s++r) from rfl,e,List.length_singleton,h1,List.length_cons]
  congr 2
  omega
 | @tok x s k ht _ ih =>
  intro o r hl;cases s with
  | nil =>
   rw [List.append_nil] at hl;obtain ⟨d,hd⟩:∃ d,x.2.getLast? = some d:=⟨x.2.getLast ht.ne,List.getLast?_eq_some_getLast ht.ne⟩;exact absurd (ht.last d hd) (by rw [hl d hd];decide)
  | cons d s =>
   obtain ⟨l,h1,h2⟩:=ih (o+x.2.length) r fun e he=>hl e (by rw [List.getLast?_append,he];rfl);refine ⟨⟨x.1,x.2,o⟩::l,?_,by rw [List.map_cons,h2];rfl⟩;rw [List.append_assoc,List.cons_append,GF (ht.tail (r':=s++r)),← List.cons_append,h1,List.cons_append,List.length_append]
   congr 3
   omega
def iW:List Str→Str
 | []=>[]
 | w::ws=>w++32::iW ws
theorem xJ:∀ (ws:List Str) (w:Str),iW (ws++[w])=iW ws++(w++[32])
 | [],w=>by simp [iW]
 | v::ws,w=>by simp only [List.cons_append,iW,xJ ws w,List.append_assoc]
theorem BO:∀ ws:List Str,(iW ws).length=(ws.map List.length).sum+ws.length
 | []=>rfl
 | w::ws=>by
  simp only [iW,List.length_append,List.length_cons,List.map_cons,List.sum_cons,BO ws];omega
theorem GK:∀ {k:List Kt} (_:WY k) (o:Nat),∃ l,tkA o (iW (k.map (·.2)))=l∧l.map kt=k
 | [],_,o=>⟨[],QB o,rfl⟩
 | x::k,h,o=>by
  obtain ⟨l,h1,h2⟩:=GK (k:=k) (fun y hy=>h y (List.mem_cons_of_mem _ hy)) (o+x.2.length+1);obtain ⟨r,hr⟩:=h x List.mem_cons_self;refine ⟨⟨x.1,x.2,o⟩::l,?_,by rw [List.map_cons,h2];rfl⟩;simp only [List.map_cons,iW];rw [GF (hr.gap (r':=32::_) fun d hd=>by cases hd;rfl)];have e:=yY (o:=o+x.2.length) (p:=[32]) (m:=iW (k.map (·.2))) (lV (by decide));rw [show (32::iW (k.map (·.2)):Str)=[32]++iW (k.map (·.2)) from rfl,e,List.length_singleton,h1]
theorem RG (l:List Tk):l.map (·.t)=(l.map kt).map (·.2):=by rw [List.map_map];rfl
theorem uI {f:Ft} (h:bU f=0):(fH (ftT f)).map (·.t)=(ftK f).map (·.2):=by rw [RG,xG h]
theorem sJ {f:Ft} (h:bU f=0):∀ x∈fH (ftT f),x.t.length≤1000000:=fun x hx=>by
 have hm:kt x∈ftK f:=by rw [← xG h];exact List.mem_map_of_mem hx
 obtain ⟨r,hr⟩:=(GZ h).tokL _ hm;exact hr.sh
noncomputable def gR (f:Ft):List Str:=(fH (ftT f)).map (·.t)
theorem DX (f:Ft):(gR f).length≤(ftT f).length:=by unfold gR;rw [List.length_map];exact nU _
theorem uJ {f:Ft} (h:bU f=0):(gR f).length=(ftK f).length:=by unfold gR;rw [uI h,List.length_map]
theorem DW {f:Ft} (h:bU f=0):0<(gR f).length:=by
 rw [uJ h];unfold ftK;simp
theorem yT {f:Ft} (h:bU f=0):∀ w∈gR f,w.length≤1000000:=fun w hw=>by
 obtain ⟨x,hx,rfl⟩:=List.mem_map.1 hw;exact sJ h x hx
theorem IY (ws:List Str) (h:∀ w∈ws,w.length≤1000000):(iW ws).length≤1000001 * ws.length:=by
 induction ws with
 | nil=>simp [iW]
 | cons w ws ih =>
  have h1:=ih fun x hx=>h x (List.mem_cons_of_mem _ hx);have h2:=h w List.mem_cons_self;simp only [iW,List.length_append,List.length_cons,Nat.mul_add];omega
theorem OC (f:Ft):(ftT f).getLast? = some 10:=by
 unfold ftT;rw [List.getLast?_append,show (cY 0 [[125]]).getLast? = some 10 from rfl]
 rfl
theorem GU {f:Ft} (h:bU f=0) {g r:Str} {c:UInt8} (hg:g=[]∨g=[32]) (hc:eL c=false) (hc2:c≠47) (h2:(ftT f++(g++c::r)).length≤20000) :
 (sgZ gFt (ftT f++(g++c::r))).e=8∧(sgZ gFt (ftT f++(g++c::r))).o=(ftT f).length+g.length:=by
 obtain ⟨l,h1,h3⟩:=(GZ h).more 0 (g++c::r) (fun d hd=>by rw [OC] at hd;cases hd;rfl);have hs:cD false (c::r)=c::r:=gA hc fun e=>hc2 e.1
 have e:tkA (0+(ftT f).length) (g++c::r)=tkA ((ftT f).length+g.length) (c::r):=by
  rw [Nat.zero_add];rcases hg with rfl | rfl
  ·rfl
  ·exact yY (lV (by decide))
 have e2:gI (c::r)=0:=by unfold gI;rw [hs];omega
 have e3:tkA ((ftT f).length+g.length) (c::r)=toks ((ftT f).length+g.length) (c::r):=by
  unfold tkA;rw [e2,List.drop_zero,Nat.add_zero]
 rw [oD (by simp)] at e3;exact KM h h2 (by rw [GG,h1,e,e3]) h3
theorem VL {f:Ft} (h:bU f=0) {m:Nat} (hm:m<(ftK f).length) (h2:(ftT f).length≤10000) :
 sgZ gFt (iW (((fH (ftT f)).map (·.t)).take m))=⟨[],8,(iW (((fH (ftT f)).map (·.t)).take m)).length⟩:=by
 have hl:=GZ h;have hsz:=hl.size
 have ht:(iW (((fH (ftT f)).map (·.t)).take m)).length≤20000:=by
  rw [BO,uI h,List.length_take,← List.map_take,List.map_map,List.length_map]
  have h3:(((ftK f).take m).map (List.length ∘ fun x=>x.2)).sum≤((ftK f).map fun x=>x.2.length).sum:=by
   have e:=congrArg (fun l=>(l.map fun x:Kt=>x.2.length).sum) (List.take_append_drop m (ftK f));simp only [List.map_append,List.sum_append] at e;rw [← e];exact Nat.le_add_right _ _
  omega
 refine RU h ht hm ?_;rw [uI h,← List.map_take];obtain ⟨l,h1,h3⟩:=GK (k:=(ftK f).take m) (fun x hx=>hl.tokL x (List.mem_of_mem_take hx)) 0;rw [GG,h1,h3]
end Go.Proofs.YthhoebdlfjffkaaGreatDoor
namespace Go.Proofs.YthhoebdlfjffkaaGreatDoor
open Go.RowKit Go.Par Go.Sx
theorem Fx.zero52:dV Tryz.prog 52=some [Go.Value.slice none 0 0]:=by kernel_rfl
theorem QF {H H':Hp} {s:Str} {l:List Value} (h:aL H 1 [iM s] l) (hs:s.length≤1000000):aL H' 1 [iM s] l:=by
 obtain ⟨rfl,_⟩:=nK (BU h);exact .single (sB hs) Z
theorem EC (H:Hp) (G:Gl H) (t:Str) (ht:t.length≤1000000000000) (hs:∀ x∈fH t,x.t.length≤1000000) (w:World) (hA:Agr H w) :
 Calls Tryz.prog 18 #[aB t] w fun r w'=>∃ (v:Value) (H':Hp),Rep H' (.seq 1 (((fH t).map (·.t)).map iM)) [v]∧r=.returned v∧mS H w H' w':=by
 refine Sx.enterM (H:=H) Tryz.func18 rfl Tryz.ntmps18 rfl hA ?_;refine .sr<|.a Z Z<|.ns<|.al Fx.zero52 Z fun b3=>.nt<|.sq<|.sr<|.mv Z<|.ct (X:=Nat) Fx.call37 Z (fun W s=>HG H t W s.agr) Z fun b1 H1 m1 u1=>.nt<|.bk<|?_
 refine Sx.row0 9 1 ?_
 refine At.rfB (α:=TkS) (Z:=Value × Nat × List Value) (N:=t.length+1) (e:=9) (T:=52) (TX:=96) (size:=1) (p:=b3) (fx:=[]) (enc:=fun x:TkS=>.agg (cTk .u8 x.1).toArray) (S:=fun xs=>xs.map (·.1)=fH t)
  (fun pre z=>z.2.1=pre.length∧aL H1 1 ((pre.map (·.1.t)).map iM) z.2.2) (fun z=>z.1) (fun z=>z.2.1) (fun z=>z.2.2) (fun _=>[]) (.slice none 0 0,0,[])
  (fun _ b=>[(3,.pointer (some ⟨b3,0,none⟩)),(4,.pointer (some ⟨b,0,none⟩))]) (fun x=>cTk .u8 x.1) rfl (fun _ _=>kF Fx.call68) rfl (fun w hA=>HD H1 (G.up u1.up) t (by omega) hs b1 m1 w hA) ⟨rfl,aL.nil⟩ rfl rfl ?_ ?_ ?_
 ·intro l x bs' K h;exact .rgI<|.alI Fx.zero96 Z fun b=>.sWI .head Z Z Fx.size96 (by simp [cTk,Value.oneCell',aB]) Z<|.nlI<|.tN<|fun a W f s=>h b a W (f.sub ⟨rfl,rfl,trivial⟩) s
 ·intro l' pre x z tl b H2 hC hlen u2 m2;obtain ⟨v,k,xs⟩:=z;obtain ⟨hk,hz⟩:=hC;dsimp only at hk hz ⊢;change At [] _ _ H2 w (.row 9 1 v k xs::.box b3 [v] 52::tl) _;refine At.ra (.head _) fun pv cv ev=>?_;subst ev;refine .bkI<|.rgI<|.yvI (.load Z Fx.agg52 aW Z) Z<|.yvI (.fieldAddr Z Fx.field96_1) Z<|.yvI (.loadM Z Fx.agg9 m2 (k:=1) Z Z) Z<|.blI Z (Fx.bsl52_1 _) Z fun b11=>?_
  refine Sx.freezeBox fun H3 u3 m3=>?_;refine .apDI Fx.row52 Z (fun _ _=>.head) Z (Rep.mk (n:=1) (c:=1) (ds:=[iM x.1.t]) m3 (.single (sB x.2) Z) Z (Nat.le_refl _) (by decide)) (by simp [maxLen];omega) (by omega) Z fun xs12 r12 hz12=>?_;refine At.ra (.head _) fun p12 c12 e12=>?_;subst e12;refine .stI bQ Z Z Fx.size52 Z (nb Z) Z<|.nlI<|.bN<|?_
  refine At.rE ((.slice p12 (k+1) c12,k+1,xs++xs12):Value × Nat × List Value) (u2.trans u3.up) ?_ rfl;exact ⟨by simp [hk],by rw [List.map_append,List.map_append];exact hz.app (QF hz12 x.2)⟩
 intro D ys z hS hC;obtain ⟨v,k,xs⟩:=z;obtain ⟨hk,hz⟩:=hC;dsimp only at hk hz ⊢;change At _ _ _ H1 w (.obj D (.deferred (some []))::.row 9 1 v k xs::.box b3 [v] 52::[]) _;refine .bN<|.tN<|.sr<|.yw (.load Z Fx.agg52 cC Z)<|.a Z Z<|.nt<|.rt<|?_
 refine At.pm [1,0,2] [_,_,_] rfl rfl ?_;have hz2:aL H1 1 (((fH t).map (·.t)).map iM) xs:=by rw [← hS,List.map_map (g:=fun x:Tk=>x.t)];exact hz
 have hlen:(((fH t).map (·.t)).map iM).length=k:=by rw [List.length_map,List.length_map,← hS,List.length_map,hk]
 refine Sx.freezeSeq hlen hz2 fun H4 p4 c4 u4 e4 h4=>?_;refine Sx.retM (.inl rfl) .head ?_;refine Sx.ret1 (.inl rfl) rfl (.tmp rfl) fun W s=>⟨v,H4,h4,rfl,(u1.trans u4).grow s⟩
def mkC (M:Mk) (arV bv:Value) (left:Int):List Value:=[.int .i64 (M.ints:Nat),.int .i64 (M.tables:Nat),.int .i64 (M.flags:Nat),.int .i64 (M.own:Nat),arV,.int .i64 (M.params:Nat),bv,.int .i64 left]
theorem oV (H:Hp) (a b:Nat) (w:World) (hA:Agr H w):Calls Tryz.prog 64 #[.int .i64 (a:Nat),.int .i64 (b:Nat)] w fun r w'=>r=.returned (.int .i64 ((min a b:Nat):Int))∧Ext w w':=by
 refine Sx.enter (H:=H) Tryz.func64 rfl Tryz.ntmps64 rfl hA ?_;refine .sr<|.a Z Z<|.nt<|.sq<|.sr<|.mv Z<|.mv Z<|.yw (.lss Z Z)<|.nt<|.cd Z (fun h7=>?_) (fun h7=>?_)
 ·try simp only [dt] at h7
  refine .sr<|.mv Z<|.a Z Z<|.nt<|.rt<|.tR<|?_
  refine Sx.ret1 (.inl rfl) rfl (.tmp rfl) fun W s=>⟨?_,s.ext⟩
  first
   | (rw [Nat.min_eq_left (by omega)])
   | (rw [Nat.min_eq_right (by omega)])
 try simp only [df] at h7
 refine .sk<|.tN<|.sr<|.mv Z<|.a Z Z<|.nt<|.rt<|?_
 refine Sx.ret1 (.inl rfl) rfl (.tmp rfl) fun W s=>⟨?_,s.ext⟩
 first
  | (rw [Nat.min_eq_left (by omega)])
  | (rw [Nat.min_eq_right (by omega)])
theorem fF (H:Hp) (c:UInt8) (n:Nat) (hn:n≤100) (w:World) (hA:Agr H w):Calls Tryz.prog 65 #[.int .u8 c.toNat,.int .i64 (n:Nat)] w fun r w'=>∃ (v:Value) (H':Hp),Rep H' (.seq 1 ((jI c n).map iM)) [v]∧r=.returned v∧mS H w H' w':=by
 refine Sx.enter (H:=H) Tryz.func65 rfl Tryz.ntmps65 rfl hA ?_;refine .sr<|.a Z Z<|.ns<|.a Z Z<|?_
 refine Sx.row0 9 1 ?_;refine .nt<|.sq<|.sr<|.a Z Z<|.nt<|.bk<|.lp (X:=Nat × Value × List Value) [(0,_),(1,_)] ⟨rfl,rfl,trivial⟩ [] (fun z=>[(5,z.2.1),(6,.int .i64 (z.1:Nat))]) (fun z=>H) (fun z=>[.row 9 1 z.2.1 z.1 z.2.2]) (fun z=>z.1≤n∧aL H 1 ((jI c z.1).map iM) z.2.2) (fun z=>n - z.1) (0,.slice none 0 0,[]) (fun _ s=>s) ⟨rfl,rfl,trivial⟩ ⟨by omega,aL.nil⟩ fun z hC=>?_
 obtain ⟨k,r,xs⟩:=z;dsimp only at hC ⊢;obtain ⟨hk0,hz⟩:=hC;refine .sq<|.sr<|.mv Z<|.mv Z<|.yw (.lss Z Z)<|.nt<|.cd Z (fun h9=>?_) (fun h9=>?_)
 ·try simp only [dt] at h9
  have hk:k<n:=by omega
  exact .sk<|.tN<|.sq<|.bk<|.rg<|.mv Z<|.mv Z<|.mv Z<|.yw (.add Z Z (c:=((48+k:Nat):Int)) ((w6 (by omega)).trans (by omega)))<|.yw (.conv Z Fx.int3 Fx.int5 (c:=(((UInt8.ofNat (48+k)).toNat:Nat):Int)) (by rw [show ((UInt8.ofNat (48+k)).toNat:Int)=((48+k:Nat):Int) by simp [UInt8.toNat_ofNat'];omega];simp only [IntKind.wrap,IntKind.signed,IntKind.bits];simp;omega))<|.bl Z (Fx.bsl40_2 _ _) Z fun b17=>.yw (.bytesStr (l:=nmB c k) Fx.bytes40 Fx.str9 Z Z (.box (.head _) z0))<|.bl Z (Fx.bsl52_1 _) Z fun b19=>.ap (news:=[aB (nmB c k)]) Fx.row52 Z (fun _=>cJ) Z (.box (.head _) z0) Z (by simp [Value.oneCell',aB]) (by simp [maxLen];omega) (by omega) Z fun r20 _=>.a Z Z<|.nl<|.bN<|.tN<|.rg<|.mv Z<|.yw (.add Z Z (w6 (by omega)))<|.a Z Z<|.nt<|.ag (x:=(k,r,xs)) (k+1,r20,xs++[aB (nmB c k)]) ⟨rfl,rfl,trivial⟩ ⟨rfl,rfl,trivial⟩ (fun _ s=>(s.pick [2] _ Z Z)) ⟨by dsimp only;omega,by dsimp only;rw [CO,List.map_append];exact hz.snoc (LV (by simp [nmB])) Z⟩ (by dsimp only;omega)
 try simp only [df] at h9
 obtain rfl:k=n:=by omega
 refine .ex<|.tE<|.tE<|.bE<|.tN<|.sr<|.mv Z<|.a Z Z<|.nt<|.rt<|?_
 refine At.pm [0] [_] rfl rfl ?_;refine Sx.freezeSeq (ds:=(jI c k).map iM) (by simp [dN]) hz fun H3 p3 c3 u3 hr3 hs3=>?_;exact Sx.ret1 (.inl rfl) rfl (.tmp rfl) fun W t=>⟨r,H3,hs3,rfl,u3.grow t⟩
theorem FT {H:Hp} {c:UInt8} {cs:List Value} (h:Rep H (dU8 c) cs):cs=[.int .u8 c.toNat]:=by unfold dU8 Rep at h;exact h.1
theorem gD {H:Hp} {w0 W:World} {bs:List Res} {b:Nat} {M:Mk} {arV bv:Value} {left:Int} {by_:Bs} (n:Nat) (hn:0<n) (hb:Rep H (.seq 1 ((by_).map dU8)) [bv]) (s:St H w0 (.box b (mkC M arV bv left) 172::bs) W) :
 Calls Tryz.prog 143 #[.pointer (some ⟨b,0,none⟩),.int .i64 (n:Nat)] W fun e W'=>∃ z:Value,Rep H (.seq 1 (((aE by_ n).2).map dU8)) [z]∧e=.returned (.int .i64 ((aE by_ n).1:Nat))∧St H w0 (.box b (mkC M arV z left) 172::bs) W':=by
 obtain ⟨p,c,e,hlen,_⟩:=hb.sl;simp only [List.cons.injEq,and_true,List.length_map] at e;subst e;rw [List.length_map] at hlen;have hcap:=hb.cap;refine Sx.enterS Tryz.func143 rfl Tryz.ntmps143 rfl s ?_;refine .sr<|.a Z Z<|.nt<|.sq<|.sr<|.mv Z<|.yw (.nilCheck Z)<|.yw (.fieldAddr Z Fx.field172_6)<|.yw (.load Z Fx.agg40 (.head _) Z)<|.yw (.lenSl Fx.sl40 Z)<|.yw (.eql Z Z)<|.nt<|.cd Z (fun h11=>?_) (fun h11=>?_)
 ·try simp only [dt] at h11
  have h0:by_=[]:=List.eq_nil_of_length_eq_zero (by omega);subst h0;refine .sr<|.a Z Z<|.nt<|.rt<|.tR<|?_
  exact Sx.ret1 (.inl rfl) rfl (.tmp rfl) fun W t=>⟨_,hb,rfl,t⟩
 try simp only [df] at h11
 obtain ⟨bE,oE,cE,hpE,rE,lE,mE⟩:=hb.elem (bB (f:=dU8) (show 0<by_.length by omega));subst hpE;obtain rfl:=FT rE
 obtain ⟨cB,rB,hby⟩:∃ cB rB,by_=cB::rB:=by
  match by_,hlen with
  | [],_=>simp at h11
  | cB::rB,_=>exact ⟨cB,rB,rfl⟩
 subst hby;simp only [List.getElem_cons_zero] at mE;refine .sk<|.tN<|.sr<|.mv Z<|.yw (.nilCheck Z)<|.yw (.fieldAddr Z Fx.field172_6)<|.yw (.load Z Fx.agg40 (.head _) Z)<|.yw (.indexSl Fx.sl40 Z Z (i:=0) Z (by omega) (q:=oE+0 * 1) (by omega))<|.yw (.loadM Z Fx.agg5 mE (k:=0) Z Z)<|.yw (.conv Z Fx.int5 Fx.int3 (c:=((cB.toNat:Nat):Int)) (w64 (by have:=cB.toNat_lt;omega) (by have:=cB.toNat_lt;omega)))<|.a Z Z<|.ns<|.mv Z<|.mv Z<|.yw (.nilCheck Z)<|.yw (.fieldAddr Z Fx.field172_6)<|.yw (.load Z Fx.agg40 (.head _) Z)<|.yw (.cutLo Fx.sl40 Z Z (lo:=1) Z (by omega) hb.len.2.1)<|.yw (.nilCheck Z)<|.yw (.fieldAddr Z Fx.field172_6)<|.st (l':=mkC M arV _ left) .head Z Z Fx.size40 Z (nb Z) Z<|.ns<|.mv Z<|.mv Z<|.yw (.rem Z Z (by omega) (c:=((cB.toNat % n:Nat):Int)) (by rw [Int.tmod_eq_emod_of_nonneg (by omega)];omega))<|.a Z Z<|.nt<|.rt<|?_
 exact Sx.ret1 (.inl rfl) rfl (.tmp rfl) fun W t=>⟨_,MH hb (lo:=1) (by omega),rfl,t⟩
def okM (M:Mk):Prop:=0<M.ints∧M.ints≤3∧M.params≤2∧M.flags≤2
theorem jC {H:Hp} {c:UInt8} {n k cp:Nat} {p:Option Addr} (h:Rep H (.seq 1 ((jI c n).map iM)) [.slice p n cp]) (hk:k<n):∃ b o,p=some ⟨b,o,none⟩∧dS H b (o+k * 1) [aB (nmB c k)]:=by
 obtain ⟨b,o,cs,e,r,l,m⟩:=h.elem (i:=k) (d:=iM (nmB c k)) (by rw [List.getElem?_map,JX hk];rfl);obtain ⟨rfl,_⟩:=nK r;exact ⟨b,o,e,m⟩
theorem qD {H:Hp} {w0 W:World} {bs:List Res} {b:Nat} {M:Mk} {arV bv:Value} {left:Int} {by_:Bs} (hM:okM M) (hb:Rep H (.seq 1 ((by_).map dU8)) [bv]) (s:St H w0 (.box b (mkC M arV bv left) 172::bs) W) :
 Calls Tryz.prog 162 #[.pointer (some ⟨b,0,none⟩)] W fun e W'=>∃ z:Value × Hp,(HUp w0 H z.2∧Rep z.2 (.seq 1 (((aE by_ M.ints).2).map dU8)) [z.1])∧e=.returned (aB (nmB 120 (aE by_ M.ints).1))∧St z.2 w0 (.box b (mkC M arV z.1 left) 172::bs) W':=by
 refine Sx.enterS Tryz.func162 rfl Tryz.ntmps162 rfl s ?_;refine .sr<|.a Z Z<|.nt<|.sq<|.fL 9 [(1,0),(2,0),(3,0),(4,0),(5,0),(0,1),(6,2),(7,0),(8,0)]<|.mv Z<|.mv Z<|.yw (.nilCheck Z)<|.yw (.fieldAddr Z Fx.field172_0)<|.yw (.load Z Fx.agg3 (.head _) Z)<|.ct (X:=Value) Fx.call65 Z (fun W s=>fF H 120 3 (by omega) W s.agr) Z fun v3 H3 hn3 u3=>?_
 obtain ⟨pn3,cn3,e3,_⟩:=hn3.sl;simp only [List.cons.injEq,and_true,List.length_map,dN] at e3;subst e3;obtain ⟨bE,oE,hpE,mE⟩:=jC hn3 (k:=(aE by_ M.ints).1) (by have:=bX by_ hM.1;have:=hM.2.1;omega);subst hpE;refine .cs (X:=Value) Fx.call143 Z (fun W s=>gD M.ints hM.1 (hb.up u3.up)  (s.p1_1 [0] Z)) Z fun z9 hz9=>.yw (.indexSl Fx.sl52 Z Z (i:=(aE by_ M.ints).1) Z (by have:=bX by_ hM.1;have:=hM.2.1;omega) (q:=oE+(aE by_ M.ints).1 * 1) Z)<|.yw (.loadM Z Fx.agg9 mE (k:=0) Z Z)<|.fn (tl:=[_]) Z<|.a Z Z<|.nt<|.rt<|?_
 exact Sx.ret1 (.inl rfl) rfl (.tmp rfl) fun W t=>⟨(z9,H3),⟨u3,hz9⟩,rfl,(t.p1_1 [0] rfl)⟩
def PN (rec:Bs→Ex × Bs) (M:Mk) (d:Nat):Prop:=∀ (H:Hp) (w0 W:World) (bs:List Res) (b:Nat) (arV bv:Value) (left:Int) (by_:Bs),Rep H (.seq 1 ((by_).map dU8)) [bv]→St H w0 (.box b (mkC M arV bv left) 172::bs) W →
 Calls Tryz.prog 160 #[.pointer (some ⟨b,0,none⟩),.int .i64 (d:Nat)] W fun e W'=>∃ z:List Value × Value × Hp,(HUp w0 H z.2.2∧Rep z.2.2 (dEx .i64 (rec by_).1) z.1∧Rep z.2.2 (.seq 1 (((rec by_).2).map dU8)) [z.2.1])∧e=.returned (.agg z.1.toArray)∧St z.2.2 w0 (.box b (mkC M arV z.2.1 left) 172::bs) W'
theorem QM {H:Hp} {n:Nat} (h:n<9):Rep H (dEx .i64 (.mk 1 [] (Int64.ofNat n) [])) [.int .i64 1,aB [],.int .i64 (n:Nat),.slice none 0 0]:=by
 have e:(Int64.ofNat n).toInt=(n:Int):=by
  have key:∀ i∈List.range 9,(Int64.ofNat i).toInt=(i:Int):=by decide
  exact key n (List.mem_range.2 h)
 have:=dM (H:=H) (k:=.i64) (op:=1) (nm:=[]) (n:=Int64.ofNat n) (args:=[]) (s:=.slice none 0 0) (by decide) (Rep.empty (by decide));rw [e] at this;exact this
theorem UF {k:Nat} (h:k<6):[Value.int .i64 14,.int .i64 15,.int .i64 11,.int .i64 12,.int .i64 13,.int .i64 14][k]? = some (.int .i64 (([14,15,11,12,13,14]:List UInt8).getD k 14).toNat):=by
 match k,h with
 | 0,_=>rfl
 | 1,_=>rfl
 | 2,_=>rfl
 | 3,_=>rfl
 | 4,_=>rfl
 | 5,_=>rfl
theorem sP (M:Mk) (hM:okM M) (d:Nat) (hd:d≤3) (rec:Bs→Ex × Bs) (hrec:d≤2→PN rec M (d+1)):PN (QV M d rec) M d:=by
 intro H w0 W bs b arV bv left by_ hb s;unfold QV;refine Sx.enterS Tryz.func160 rfl Tryz.ntmps160 rfl s ?_;refine .sr<|.al Fx.zero33 Z fun b4=>.ns<|.mv Z<|.cs (X:=Value) Fx.call143 Z (fun W s=>gD 12 (by decide) hb  (s.p2_2 [1,0] Z)) Z fun z9 hz9=>?_
 have hk12:=bX by_ (n:=12) (by decide);generalize (aE by_ 12).1=k at hk12 ⊢;generalize (aE by_ 12).2=b1 at hz9 ⊢;refine .a Z Z<|.nt<|.cu (X:=Unit) [(0,_),(1,_),(4,_)] ⟨rfl,rfl,rfl,trivial⟩ (fun z=>[]) (fun z=>H) (fun z=>(.box b (mkC M arV z9 left) 172::.box b4 [.int .i64 0,.string ⟨#[]⟩,.int .i64 0,.slice none 0 0] 33::bs)) (fun z=>¬ (k<2∨(2<d∧5<k))∧¬ (k<4∨(k=4∧M.params=0))∧¬ k=4∧¬ k=5∧¬ (k=6∧0<M.tables)∧¬ (k=7∧0<M.tables)∧¬ k=8) ?_ fun z hC=>?_
 ·
  refine .bk<|.cu (X:=Bool) [(0,_),(1,_),(4,_),(5,_)] ⟨rfl,rfl,rfl,rfl,trivial⟩ (fun z=>[(10,.bool z)]) (fun z=>H) (fun z=>(.box b (mkC M arV z9 left) 172::.box b4 [.int .i64 0,.string ⟨#[]⟩,.int .i64 0,.slice none 0 0] 33::bs)) (fun z=>z=decide (k<2∨(2<d∧5<k))) ?_ fun z hC=>?_
  ·
   refine .rg<|.mv Z<|.yw (.lss Z Z)<|.mv Z<|.b2 (fun h13=>?_) (fun h13=>?_)
   ·try simp only [dt] at h13
    exact .gG<|.gG<|.gG<|.gV<|.gV<|.gG<|.yw (.pickT Z Z)<|.a Z Z<|.nt<|.me _ ⟨rfl,trivial⟩ ⟨rfl,rfl,rfl,rfl,trivial⟩ (fun _ s=>s) (by rw [Bool.eq_iff_iff,decide_eq_true_eq];first | (rw [decide_eq_true_eq];omega) | exact ⟨fun _=>by omega,fun _=>rfl⟩ | exact ⟨fun h=>(by cases h),fun h=>by omega⟩)
   try simp only [df] at h13
   refine .gd Z Z<|.yw (.move Z)<|.gd Z Z<|.yw (.gtr Z Z)<|.gd Z Z<|.yw (.move Z)<|.b2 (fun h16=>?_) (fun h16=>?_)
   ·try simp only [dt] at h16
    exact .gd Z Z<|.yw (.move Z)<|.gd Z Z<|.yw (.gtr Z Z)<|.gd Z Z<|.yw (.pickT Z Z)<|.yw (.pickF Z Z)<|.a Z Z<|.nt<|.me _ ⟨rfl,trivial⟩ ⟨rfl,rfl,rfl,rfl,trivial⟩ (fun _ s=>s) (by rw [Bool.eq_iff_iff,decide_eq_true_eq];first | (rw [decide_eq_true_eq];omega) | exact ⟨fun _=>by omega,fun _=>rfl⟩ | exact ⟨fun h=>(by cases h),fun h=>by omega⟩)
   try simp only [df] at h16
   exact .gG<|.gG<|.gd Z Z<|.yw (.pickF Z Z)<|.yw (.pickF Z Z)<|.a Z Z<|.nt<|.me _ ⟨rfl,trivial⟩ ⟨rfl,rfl,rfl,rfl,trivial⟩ (fun _ s=>s) (by rw [Bool.eq_iff_iff,decide_eq_true_eq];first | (rw [decide_eq_true_eq];omega) | exact ⟨fun _=>by omega,fun _=>rfl⟩ | exact ⟨fun h=>(by cases h),fun h=>by omega⟩)
  have e10:=hC;refine .cd Z (fun h10=>?_) (fun h10=>?_)
  ·have q10:k<2∨(2<d∧5<k):=by rw [h10] at e10;exact of_decide_eq_true e10.symm
   refine .sr<|.mv Z<|.cs (X:=Value) Fx.call143 Z (fun W s=>gD 9 (by decide) hz9  (s.p2_2 [0,1] Z)) Z fun z22 hz22=>.yw (.build Z (Fx.bld33_0_2 _ _))<|.sW bQ Z Z Fx.size33 (by simp [Value.oneCell',aB]) Z<|.nt<|.rt<|.bR<|.tR<|?_
   exact Sx.ret1 (.inl rfl) rfl (.cell rfl Fx.agg33 aW rfl) fun W t=>⟨(_,_,H),by rw [show lO M d rec k b1=_ from by rw [lO,if_pos (by omega)]];exact ⟨.refl,QM (bX _ (by decide)),hz22⟩,rfl,(t.p2_1 [0] rfl)⟩
  have q10:¬ (k<2∨(2<d∧5<k)):=by rw [h10] at e10;exact of_decide_eq_false e10.symm
  refine .cu (X:=Bool) [(0,_),(1,_),(4,_),(5,_)] ⟨rfl,rfl,rfl,rfl,trivial⟩ (fun z=>[(24,.bool z)]) (fun z=>H) (fun z=>(.box b (mkC M arV z9 left) 172::.box b4 [.int .i64 0,.string ⟨#[]⟩,.int .i64 0,.slice none 0 0] 33::bs)) (fun z=>z=decide (k<4∨(k=4∧M.params=0))) ?_ fun z hC=>?_
  ·
   refine .rg<|.mv Z<|.yw (.lss Z Z)<|.mv Z<|.b2 (fun h27=>?_) (fun h27=>?_)
   ·try simp only [dt] at h27
    exact .gG<|.gG<|.gG<|.gV<|.gV<|.gV<|.gV<|.gV<|.gG<|.yw (.pickT Z Z)<|.a Z Z<|.nt<|.me _ ⟨rfl,trivial⟩ ⟨rfl,rfl,rfl,rfl,trivial⟩ (fun _ s=>s) (by rw [Bool.eq_iff_iff,decide_eq_true_eq];first | (rw [decide_eq_true_eq];omega) | exact ⟨fun _=>by omega,fun _=>rfl⟩ | exact ⟨fun h=>(by cases h),fun h=>by omega⟩)
   try simp only [df] at h27
   refine .gd Z Z<|.yw (.move Z)<|.gd Z Z<|.yw (.eql Z Z)<|.gd Z Z<|.yw (.move Z)<|.b2 (fun h30=>?_) (fun h30=>?_)
   ·try simp only [dt] at h30
    exact .gd Z Z<|.yw (.move Z)<|.gd Z Z<|.yw (.nilCheck Z)<|.gd Z Z<|.yw (.fieldAddr Z Fx.field172_5)<|.gd Z Z<|.yw (.load Z Fx.agg3 (.head _) Z)<|.gd Z Z<|.yw (.eql Z Z)<|.gd Z Z<|.yw (.pickT Z Z)<|.yw (.pickF Z Z)<|.a Z Z<|.nt<|.me _ ⟨rfl,trivial⟩ ⟨rfl,rfl,rfl,rfl,trivial⟩ (fun _ s=>s) (by rw [Bool.eq_iff_iff,decide_eq_true_eq];first | (rw [decide_eq_true_eq];omega) | exact ⟨fun _=>by omega,fun _=>rfl⟩ | exact ⟨fun h=>(by cases h),fun h=>by omega⟩)
   try simp only [df] at h30
   exact .gG<|.gG<|.gG<|.gG<|.gG<|.gd Z Z<|.yw (.pickF Z Z)<|.yw (.pickF Z Z)<|.a Z Z<|.nt<|.me _ ⟨rfl,trivial⟩ ⟨rfl,rfl,rfl,rfl,trivial⟩ (fun _ s=>s) (by rw [Bool.eq_iff_iff,decide_eq_true_eq];first | (rw [decide_eq_true_eq];omega) | exact ⟨fun _=>by omega,fun _=>rfl⟩ | exact ⟨fun h=>(by cases h),fun h=>by omega⟩)
  have e24:=hC;refine .cd Z (fun h24=>?_) (fun h24=>?_)
  ·have q24:k<4∨(k=4∧M.params=0):=by rw [h24] at e24;exact of_decide_eq_true e24.symm
   refine .sr<|.mv Z<|.cs (X:=Value × Hp) Fx.call162 Z (fun W s=>qD hM hz9  (s.p2_2 [0,1] Z)) Z fun z39 hz39=>.yw (.build Z (Fx.bld33_0_1 _ _))<|.sW bQ Z Z Fx.size33 (by simp [Value.oneCell',aB]) Z<|.nt<|.rt<|.bR<|.tR<|?_
   exact Sx.ret1 (.inl rfl) rfl (.cell rfl Fx.agg33 aW rfl) fun W t=>⟨(_,_,z39.2),by rw [show lO M d rec k b1=_ from by rw [lO,if_neg (by omega),if_pos (by omega)]];exact ⟨hz39.1,dM (args:=[]) (by simp [nmB]) (Rep.empty (by decide)),hz39.2⟩,rfl,(t.p2_1 [0] rfl)⟩
  have q24:¬ (k<4∨(k=4∧M.params=0)):=by rw [h24] at e24;exact of_decide_eq_false e24.symm
  refine .sr<|.mv Z<|.yw (.eql Z Z)<|.a Z Z<|.nt<|.cd Z (fun h41=>?_) (fun h41=>?_)
  ·try simp only [dt] at h41
   refine .sq<|.fL 10 [(1,0),(2,0),(3,0),(4,0),(5,0),(0,1),(6,2),(7,0),(8,0),(9,0)]<|.mv Z<|.mv Z<|.yw (.nilCheck Z)<|.yw (.fieldAddr Z Fx.field172_5)<|.yw (.load Z Fx.agg3 (.head _) Z)<|.ct (X:=Value) Fx.call65 Z (fun W s=>fF H 112 2 (by omega) W s.agr) Z fun v44 H44 hn44 u44=>?_
   obtain ⟨pn44,cn44,e44,_⟩:=hn44.sl;simp only [List.cons.injEq,and_true,List.length_map,dN] at e44;subst e44;obtain ⟨bE,oE,hpE,mE⟩:=jC hn44 (k:=(aE b1 M.params).1) (by have:=bX b1 (n:=M.params) (by omega);have:=hM.2.2.1;omega);subst hpE;refine .cs (X:=Value) Fx.call143 Z (fun W s=>gD M.params (by omega) (hz9.up u44.up)  (s.p2_2 [0,1] Z)) Z fun z50 hz50=>.yw (.indexSl Fx.sl52 Z Z (i:=(aE b1 M.params).1) Z (by have:=bX b1 (n:=M.params) (by omega);have:=hM.2.2.1;omega) (q:=oE+(aE b1 M.params).1 * 1) Z)<|.yw (.loadM Z Fx.agg9 mE (k:=0) Z Z)<|.yw (.build Z (Fx.bld33_0_1 _ _))<|.fn (tl:=[_]) Z<|.sW bQ Z Z Fx.size33 (by simp [Value.oneCell',aB]) Z<|.nt<|.rt<|.bR<|.tR<|?_
   exact Sx.ret1 (.inl rfl) rfl (.cell rfl Fx.agg33 aW rfl) fun W t=>⟨(_,_,H44),by rw [show lO M d rec k b1=_ from by rw [lO,if_neg (by omega),if_neg (by omega),if_pos (by omega)]];exact ⟨u44,dM (args:=[]) (by simp [nmB]) (Rep.empty (by decide)),hz50⟩,rfl,(t.p2_1 [0] rfl)⟩
  try simp only [df] at h41
  refine .sr<|.mv Z<|.yw (.eql Z Z)<|.a Z Z<|.nt<|.cd Z (fun h54=>?_) (fun h54=>?_)
  ·try simp only [dt] at h54
   refine .sr<|.yw (.build Z (Fx.bld33_0 _))<|.sW bQ Z Z Fx.size33 (by simp [Value.oneCell',aB]) Z<|.nt<|.rt<|.bR<|.tR<|?_
   exact Sx.ret1 (.inl rfl) rfl (.cell rfl Fx.agg33 aW rfl) fun W t=>⟨(_,_,H),by rw [show lO M d rec k b1=_ from by rw [lO,if_neg (by omega),if_neg (by omega),if_neg (by omega),if_pos (by omega)]];exact ⟨.refl,dM (args:=[]) (nm:=[]) (by decide) (Rep.empty (by decide)),hz9⟩,rfl,(t.p2_1 [0] rfl)⟩
  try simp only [df] at h54
  refine .cu (X:=Bool) [(0,_),(1,_),(4,_),(5,_)] ⟨rfl,rfl,rfl,rfl,trivial⟩ (fun z=>[(58,.bool z)]) (fun z=>H) (fun z=>(.box b (mkC M arV z9 left) 172::.box b4 [.int .i64 0,.string ⟨#[]⟩,.int .i64 0,.slice none 0 0] 33::bs)) (fun z=>z=decide (k=6∧0<M.tables)) ?_ fun z hC=>?_
  ·
   refine .rg<|.mv Z<|.yw (.eql Z Z)<|.mv Z<|.b2 (fun h61=>?_) (fun h61=>?_)
   ·try simp only [dt] at h61
    exact .gd Z Z<|.yw (.move Z)<|.gd Z Z<|.yw (.nilCheck Z)<|.gd Z Z<|.yw (.fieldAddr Z Fx.field172_1)<|.gd Z Z<|.yw (.load Z Fx.agg3 (.head _) Z)<|.gd Z Z<|.yw (.gtr Z Z)<|.yw (.pickT Z Z)<|.a Z Z<|.nt<|.me _ ⟨rfl,trivial⟩ ⟨rfl,rfl,rfl,rfl,trivial⟩ (fun _ s=>s) (by rw [Bool.eq_iff_iff,decide_eq_true_eq];first | (rw [decide_eq_true_eq];omega) | exact ⟨fun _=>by omega,fun _=>rfl⟩ | exact ⟨fun h=>(by cases h),fun h=>by omega⟩)
   try simp only [df] at h61
   exact .gG<|.gG<|.gG<|.gG<|.gG<|.yw (.pickF Z Z)<|.a Z Z<|.nt<|.me _ ⟨rfl,trivial⟩ ⟨rfl,rfl,rfl,rfl,trivial⟩ (fun _ s=>s) (by rw [Bool.eq_iff_iff,decide_eq_true_eq];first | (rw [decide_eq_true_eq];omega) | exact ⟨fun _=>by omega,fun _=>rfl⟩ | exact ⟨fun h=>(by cases h),fun h=>by omega⟩)
  have e58:=hC;refine .cd Z (fun h58=>?_) (fun h58=>?_)
  ·have q58:k=6∧0<M.tables:=by rw [h58] at e58;exact of_decide_eq_true e58.symm
   refine .sr<|.mv Z<|.mv Z<|.yw (.add Z Z (c:=((d+1:Nat):Int)) ((w6 (by omega)).trans (by omega)))<|.cs (X:=List Value × Value × Hp) Fx.call160 Z (fun W s=>hrec (by omega) H w0 W _ b arV _ left b1 hz9  (s.p2_2 [0,1] Z)) Z fun z71 hz71=>?_
   obtain ⟨x71,v71,H71⟩:=z71;obtain ⟨u71,r71,q71⟩:=hz71;dsimp only at u71 r71 q71 ⊢;generalize hE71:(rec b1).1=e71 at r71;obtain ⟨op71,nm71,n71,a71⟩:=e71;obtain ⟨p71,c71,rfl,hs71,hl71⟩:=bZ r71;refine .bl Z (Fx.bsl31_1 _ _ _ _) Z fun b72=>.yw (.build Z (Fx.bld33_0_1_3 _ _ _ _ _))<|.sW cJ Z Z Fx.size33 (by simp [Value.oneCell',aB]) Z<|.nt<|.rt<|.bR<|.tR<|?_
   refine At.pt (hd:=[_,_,_]) (tl:=bs) (hd':=[_,_,_]) [0,2,1] rfl rfl ?_;refine Sx.freezeBox fun Hf uf mf=>?_;exact Sx.ret1 (.inl rfl) rfl (.cell rfl Fx.agg33 (.head _) rfl) fun W t=>⟨(_,_,Hf),by rw [show lO M d rec k b1=_ from by rw [lO,if_neg (by omega),if_neg (by omega),if_neg (by omega),if_neg (by omega),if_pos (by omega)],hE71];exact ⟨u71.trans uf,dM (nm:=[116,48]) (args:=[.mk op71 nm71 n71 a71]) (by decide) (Rep.mk (n:=1) (c:=1) mf (.single (r71.up uf.up) rfl) rfl (Nat.le_refl _) (by decide)),q71.up uf.up⟩,rfl,t.drop⟩
  have q58:¬ (k=6∧0<M.tables):=by rw [h58] at e58;exact of_decide_eq_false e58.symm
  refine .cu (X:=Bool) [(0,_),(1,_),(4,_),(5,_)] ⟨rfl,rfl,rfl,rfl,trivial⟩ (fun z=>[(74,.bool z)]) (fun z=>H) (fun z=>(.box b (mkC M arV z9 left) 172::.box b4 [.int .i64 0,.string ⟨#[]⟩,.int .i64 0,.slice none 0 0] 33::bs)) (fun z=>z=decide (k=7∧0<M.tables)) ?_ fun z hC=>?_
  ·
   refine .rg<|.mv Z<|.yw (.eql Z Z)<|.mv Z<|.b2 (fun h77=>?_) (fun h77=>?_)
   ·try simp only [dt] at h77
    exact .gd Z Z<|.yw (.move Z)<|.gd Z Z<|.yw (.nilCheck Z)<|.gd Z Z<|.yw (.fieldAddr Z Fx.field172_1)<|.gd Z Z<|.yw (.load Z Fx.agg3 (.head _) Z)<|.gd Z Z<|.yw (.gtr Z Z)<|.yw (.pickT Z Z)<|.a Z Z<|.nt<|.me _ ⟨rfl,trivial⟩ ⟨rfl,rfl,rfl,rfl,trivial⟩ (fun _ s=>s) (by rw [Bool.eq_iff_iff,decide_eq_true_eq];first | (rw [decide_eq_true_eq];omega) | exact ⟨fun _=>by omega,fun _=>rfl⟩ | exact ⟨fun h=>(by cases h),fun h=>by omega⟩)
   try simp only [df] at h77
   exact .gG<|.gG<|.gG<|.gG<|.gG<|.yw (.pickF Z Z)<|.a Z Z<|.nt<|.me _ ⟨rfl,trivial⟩ ⟨rfl,rfl,rfl,rfl,trivial⟩ (fun _ s=>s) (by rw [Bool.eq_iff_iff,decide_eq_true_eq];first | (rw [decide_eq_true_eq];omega) | exact ⟨fun _=>by omega,fun _=>rfl⟩ | exact ⟨fun h=>(by cases h),fun h=>by omega⟩)
  have e74:=hC;refine .cd Z (fun h74=>?_) (fun h74=>?_)
  ·have q74:k=7∧0<M.tables:=by rw [h74] at e74;exact of_decide_eq_true e74.symm
   refine .sr<|.yw (.build Z (Fx.bld33_0_1 _ _))<|.sW bQ Z Z Fx.size33 (by simp [Value.oneCell',aB]) Z<|.nt<|.rt<|.bR<|.tR<|?_
   exact Sx.ret1 (.inl rfl) rfl (.cell rfl Fx.agg33 aW rfl) fun W t=>⟨(_,_,H),by rw [show lO M d rec k b1=_ from by rw [lO,if_neg (by omega),if_neg (by omega),if_neg (by omega),if_neg (by omega),if_neg (by omega),if_pos (by omega)]];exact ⟨.refl,dM (args:=[]) (nm:=[116,48]) (by decide) (Rep.empty (by decide)),hz9⟩,rfl,(t.p2_1 [0] rfl)⟩
  have q74:¬ (k=7∧0<M.tables):=by rw [h74] at e74;exact of_decide_eq_false e74.symm
  refine .sr<|.mv Z<|.yw (.eql Z Z)<|.a Z Z<|.nt<|.cd Z (fun h85=>?_) (fun h85=>?_)
  ·try simp only [dt] at h85
   refine .sr<|.mv Z<|.mv Z<|.yw (.add Z Z (w6 (by omega)))<|.cs (X:=List Value × Value × Hp) Fx.call160 Z (fun W s=>hrec (by omega) H w0 W _ b arV _ left b1 hz9  (s.p2_2 [0,1] Z)) Z fun z91 hz91=>?_
   obtain ⟨x91,v91,H91⟩:=z91;obtain ⟨u91,r91,q91⟩:=hz91;dsimp only at u91 r91 q91 ⊢;generalize hE91:(rec b1).1=e91 at r91;obtain ⟨op91,nm91,n91,a91⟩:=e91;obtain ⟨p91,c91,rfl,hs91,hl91⟩:=bZ r91;refine .bl Z (Fx.bsl31_1 _ _ _ _) Z fun b92=>.yw (.build Z (Fx.bld33_0_3 _ _ _ _))<|.sW cJ Z Z Fx.size33 (by simp [Value.oneCell',aB]) Z<|.nt<|.rt<|.bR<|.tR<|?_
   refine At.pt (hd:=[_,_,_]) (tl:=bs) (hd':=[_,_,_]) [0,2,1] rfl rfl ?_;refine Sx.freezeBox fun Hf uf mf=>?_;exact Sx.ret1 (.inl rfl) rfl (.cell rfl Fx.agg33 (.head _) rfl) fun W t=>⟨(_,_,Hf),by rw [show lO M d rec k b1=_ from by rw [lO,if_neg (by omega),if_neg (by omega),if_neg (by omega),if_neg (by omega),if_neg (by omega),if_neg (by omega),if_pos (by omega)],hE91];exact ⟨u91.trans uf,dM (nm:=[]) (args:=[.mk op91 nm91 n91 a91]) (by decide) (Rep.mk (n:=1) (c:=1) mf (.single (r91.up uf.up) rfl) rfl (Nat.le_refl _) (by decide)),q91.up uf.up⟩,rfl,t.drop⟩
  try simp only [df] at h85
  exact .sk<|.bN<|.tN<|.me () trivial ⟨rfl,rfl,rfl,trivial⟩ (fun _ s=>s) (by omega)
 obtain ⟨hc1,hc2,hc3,hc4,hc5,hc6,hc7⟩:=hC;refine .sr<|.bl Z (Fx.bsl129_6 _ _ _ _ _ _) Z fun b94=>.mv Z<|.cs (X:=Value) Fx.call143 Z (fun W s=>gD 6 (by decide) hz9  (s.p3_3 [1,0,2] Z)) Z fun z96 hz96=>.yw (.indexSl Fx.sl129 Z Z (i:=(aE b1 6).1) Z (by have:=bX b1 (n:=6) (by decide);omega) (q:=(aE b1 6).1) (by omega))<|.yw (.load (v:=.int .i64 (([14,15,11,12,13,14]:List UInt8).getD (aE b1 6).1 14).toNat) Z Fx.agg3 aW (UF (bX b1 (n:=6) (by decide))))<|.a Z Z<|.ns<|.mv Z<|.mv Z<|.yw (.add Z Z (w6 (by omega)))<|.cs (X:=List Value × Value × Hp) Fx.call160 Z (fun W s=>hrec (by omega) H w0 W _ b arV _ left (aE b1 6).2 hz96  (s.p3_3 [0,1,2] Z)) Z fun z102 hz102=>?_
 obtain ⟨x102,v102,H102⟩:=z102;obtain ⟨u102,r102,q102⟩:=hz102;dsimp only at u102 r102 q102 ⊢;generalize hE102:(rec (aE b1 6).2).1=e102 at r102;obtain ⟨op102,nm102,n102,a102⟩:=e102;obtain ⟨p102,c102,rfl,hs102,hl102⟩:=bZ r102;refine .al Fx.zero33 Z fun b7=>.sW .head Z Z Fx.size33 (by simp [Value.oneCell',aB]) Z<|.nt<|.sq<|.fL 8 [(0,0),(1,0),(2,0),(3,0),(4,0),(5,3),(6,1),(7,0)]<|.mv Z<|.yw (.loadW Z Fx.agg33 (.head _) Z)<|.mv Z<|.mv Z<|.yw (.add Z Z (w6 (by omega)))<|.c3 (X:=List Value × Value × Hp) Fx.call160 Z (fun W s=>hrec (by omega) H102 w0 W _ b arV _ left (rec (aE b1 6).2).2 q102  (s.p4_4 [1,0,2,3] Z)) Z (fun z108 hz108=>(.dn<|.dn<|.dn<|.yv (.loadW Z Fx.agg33 aW Z)<|.yv (.move Z)<|.nl)) fun z108 hz108=>?_
 obtain ⟨x108,v108,H108⟩:=z108;obtain ⟨u108,r108,q108⟩:=hz108;dsimp only at u108 r108 q108 ⊢;generalize hE108:(rec (rec (aE b1 6).2).2).1=e108 at r108;obtain ⟨op108,nm108,n108,a108⟩:=e108;obtain ⟨p108,c108,rfl,hs108,hl108⟩:=bZ r108;refine .bl Z (Fx.bsl31_2 _ _ _ _ _ _ _ _) Z fun b109=>.yw (.build Z (Fx.bld33_0_3 _ _ _ _))<|.fn (tl:=[_]) Z<|.sW EB Z Z Fx.size33 (by simp [Value.oneCell',aB]) Z<|.nt<|.rt<|?_
 refine At.pt (hd:=[_,_,_,_,_]) (tl:=bs) (hd':=[_,_,_]) [0,4,1] rfl rfl ?_;refine Sx.freezeBox fun Hf uf mf=>?_;exact Sx.ret1 (.inl rfl) rfl (.cell rfl Fx.agg33 (.head _) rfl) fun W t=>⟨(_,_,Hf),by rw [show lO M d rec k b1=_ from by rw [lO,if_neg (by omega),if_neg (by omega),if_neg (by omega),if_neg (by omega),if_neg (by omega),if_neg (by omega),if_neg (by omega)],hE102,hE108];exact ⟨(u102.trans u108).trans uf,dM (nm:=[]) (args:=[.mk op102 nm102 n102 a102,.mk op108 nm108 n108 a108]) (by decide) (Rep.mk (n:=2) (c:=2) mf (aL.app (aL.single ((r102.up u108.up).up uf.up) rfl) (aL.single (r108.up uf.up) rfl)) rfl (Nat.le_refl _) (by decide)),q108.up uf.up⟩,rfl,t.drop⟩
theorem jB (M:Mk) (hM:okM M):∀ f,f≤3→PN (eW M f) M (3 - f)
 | 0,_=>sP M hM 3 (by omega) _ (fun h=>by omega)
 | f+1,hf=>by
  have e:3 - (f+1)=2 - f:=by omega
  rw [e];refine sP M hM (2 - f) (by omega) (eW M f) fun _=>?_;rw [show 2 - f+1=3 - f by omega];exact jB M hM f (by omega)
theorem iP {H:Hp} {w0 W:World} {bs:List Res} {b:Nat} {M:Mk} {arV bv:Value} {left:Int} {by_:Bs} (hM:okM M) (n:Nat) (hn:n≤100) (hb:Rep H (.seq 1 ((by_).map dU8)) [bv]) (s:St H w0 (.box b (mkC M arV bv left) 172::bs) W) :
 Calls Tryz.prog 161 #[.pointer (some ⟨b,0,none⟩),.int .i64 (n:Nat)] W fun e W'=>∃ z:Value × Value × Hp,(HUp w0 H z.2.2∧(∃ xs,aL z.2.2 4 ((iX M n by_).1.map (dEx .i64)) xs∧jE z.2.2 z.1 n xs∧(iX M n by_).1.length=n)∧Rep z.2.2 (.seq 1 (((iX M n by_).2).map dU8)) [z.2.1])∧e=.returned z.1∧St z.2.2 w0 (.box b (mkC M arV z.2.1 left) 172::bs) W':=by
 refine Sx.enterS Tryz.func161 rfl Tryz.ntmps161 rfl s ?_;refine .sr<|.a Z Z<|.ns<|.a Z Z<|?_
 refine Sx.row0 33 4 ?_;refine .nt<|.sq<|.sr<|.a Z Z<|.nt<|.bk<|.lp (X:=Nat × Hp × Value × List Value × Value) [(0,_),(1,_)] ⟨rfl,rfl,trivial⟩ (bs) (fun z=>[(5,z.2.2.1),(6,.int .i64 (z.1:Nat))]) (fun z=>z.2.1) (fun z=>[.row 33 4 z.2.2.1 z.1 z.2.2.2.1,.box b (mkC M arV z.2.2.2.2 left) 172]) (fun z=>z.1≤n∧HUp w0 H z.2.1∧∃ (es:List Ex) (b1:Bs),es.length=z.1∧aL z.2.1 4 (es.map (dEx .i64)) z.2.2.2.1∧Rep z.2.1 (.seq 1 ((b1).map dU8)) [z.2.2.2.2]∧iX M n by_=(es++(iX M (n - z.1) b1).1,(iX M (n - z.1) b1).2)) (fun z=>n - z.1) (0,H,.slice none 0 0,[],bv) (fun _ s=>s) ⟨rfl,rfl,trivial⟩ ⟨by dsimp only;omega,.refl,[],by_,rfl,aL.nil,hb,rfl⟩ fun z hC=>?_
 obtain ⟨k,H1,r,xs,bv⟩:=z;dsimp only at hC ⊢;obtain ⟨hk0,u1,es,b1,hlen,hz,hb1,heq⟩:=hC;refine .sq<|.sr<|.mv Z<|.mv Z<|.yw (.lss Z Z)<|.nt<|.cd Z (fun h9=>?_) (fun h9=>?_)
 ·try simp only [dt] at h9
  have hk:k<n:=by omega
  refine .sk<|.tN<|.sq<|.bk<|.rg<|.mv Z<|.mv Z<|.cs (X:=List Value × Value × Hp) Fx.call160 Z (fun W s=>jB M hM 2 (by decide) H1 w0 W _ b arV _ left b1 hb1  (s.p2_2 [1,0] Z)) Z fun z14 hz14=>?_
  obtain ⟨x14,v14,H14⟩:=z14;obtain ⟨u14,r14,q14⟩:=hz14;dsimp only at u14 r14 q14 ⊢;generalize hE14:(eW M 2 b1).1=e14 at r14;obtain ⟨op14,nm14,n14,a14⟩:=e14;obtain ⟨p14,c14,rfl,hs14,hl14⟩:=bZ r14;exact .bl Z (Fx.bsl31_1 _ _ _ _) Z fun b15=>.ap (news:=[.int .i64 op14.toNat,aB nm14,.int .i64 n14.toInt,.slice p14 a14.length c14]) Fx.row31 Z (fun _=>cJ) Z (.box (.head _) z0) Z (by simp [Value.oneCell',aB]) (by simp [maxLen];omega) (by omega) Z fun r16 _=>.a Z Z<|.nl<|.bN<|.tN<|.rg<|.mv Z<|.yw (.add Z Z (w6 (by omega)))<|.a Z Z<|.nt<|.ag (x:=(k,H1,r,xs,bv)) (k+1,H14,r16,xs++[.int .i64 op14.toNat,aB nm14,.int .i64 n14.toInt,.slice p14 a14.length c14],v14) ⟨rfl,rfl,trivial⟩ ⟨rfl,rfl,trivial⟩ (fun _ s=>(s.p3_2 [2,1] Z)) ⟨by dsimp only;omega,u1.trans u14,es++[.mk op14 nm14 n14 a14],(eW M 2 b1).2,by simp;omega,by dsimp only;rw [List.map_append];exact (hz.up u14.up).snoc r14 Z,q14,by dsimp only;rw [heq,show n - k=(n - (k+1))+1 by omega,iX,hE14,List.append_assoc];rfl⟩ (by dsimp only;omega)
 try simp only [df] at h9
 obtain rfl:k=n:=by omega
 rw [Nat.sub_self,iX,List.append_nil] at heq;refine .ex<|.tE<|.tE<|.bE<|.tN<|.sr<|.mv Z<|.a Z Z<|.nt<|.rt<|?_
 refine At.pt (hd:=[_,_]) (tl:=bs) (hd':=[_,_]) [0,1] rfl rfl ?_;refine Sx.freezeAt fun H3 u3 hs3=>?_;exact Sx.ret1 (.inl rfl) rfl (.tmp rfl) fun W t=>⟨(r,bv,H3),by rw [heq];exact ⟨u1.trans u3,⟨xs,hz.up u3.up,hs3,hlen⟩,hb1.up u3.up⟩,rfl,t⟩
def PL (rec:Bs→Ex × Bs) (M:Mk) (d:Nat):Prop:=∀ (H:Hp) (w0 W:World) (bs:List Res) (b:Nat) (arV bv:Value) (left:Int) (by_:Bs),Rep H (.seq 1 ((by_).map dU8)) [bv]→St H w0 (.box b (mkC M arV bv left) 172::bs) W →
 Calls Tryz.prog 159 #[.pointer (some ⟨b,0,none⟩),.int .i64 (d:Nat)] W fun e W'=>∃ z:List Value × Value × Hp,(HUp w0 H z.2.2∧Rep z.2.2 (dEx .i64 (rec by_).1) z.1∧Rep z.2.2 (.seq 1 (((rec by_).2).map dU8)) [z.2.1])∧e=.returned (.agg z.1.toArray)∧St z.2.2 w0 (.box b (mkC M arV z.2.1 left) 172::bs) W'
theorem op2 {n:Nat} (h:n<2):(((2+UInt8.ofNat n).toNat:Nat):Int)=2+(n:Int):=by
 have key:∀ i∈List.range 2,(2+UInt8.ofNat i).toNat=2+i:=by decide
 have:=key n (List.mem_range.2 h);omega
theorem UG {n:Nat} (h:n<10):(((16+UInt8.ofNat n).toNat:Nat):Int)=16+(n:Int):=by
 have key:∀ i∈List.range 10,(16+UInt8.ofNat i).toNat=16+i:=by decide
 have:=key n (List.mem_range.2 h);omega
theorem uO (M:Mk) (hM:okM M) (d:Nat) (hd:d≤2) (rec:Bs→Ex × Bs) (hrec:d≤1→PL rec M (d+1)):PL (PX M d rec) M d:=by
 intro H w0 W bs b arV bv left by_ hb s;unfold PX;refine Sx.enterS Tryz.func159 rfl Tryz.ntmps159 rfl s ?_;refine .sr<|.al Fx.zero33 Z fun b4=>.ns<|.mv Z<|.cs (X:=Value) Fx.call143 Z (fun W s=>gD 10 (by decide) hb  (s.p2_2 [1,0] Z)) Z fun z10 hz10=>?_
 have hk12:=bX by_ (n:=10) (by decide);generalize (aE by_ 10).1=k at hk12 ⊢;generalize (aE by_ 10).2=b1 at hz10 ⊢;refine .a Z Z<|.nt<|.cu (X:=Unit) [(0,_),(4,_)] ⟨rfl,rfl,trivial⟩ (fun z=>[]) (fun z=>H) (fun z=>(.box b (mkC M arV z10 left) 172::.box b4 [.int .i64 0,.string ⟨#[]⟩,.int .i64 0,.slice none 0 0] 33::bs)) (fun z=>¬ k=0∧¬ (k=1∨(1<d∧4<k))∧¬ (k=2∧0<M.flags)∧¬ (k=3∧0<M.tables)∧¬ k=5∧¬ (k=6∨k=7)) ?_ fun z hC=>?_
 ·
  refine .bk<|.sr<|.mv Z<|.yw (.eql Z Z)<|.a Z Z<|.nt<|.cd Z (fun h11=>?_) (fun h11=>?_)
  ·try simp only [dt] at h11
   refine .sr<|.mv Z<|.cs (X:=Value) Fx.call143 Z (fun W s=>gD 2 (by decide) hz10  (s.p2_2 [0,1] Z)) Z fun z15 hz15=>.yw (.add Z Z (c:=(((2+UInt8.ofNat (aE b1 2).1).toNat:Nat):Int)) (by have:=bX b1 (n:=2) (by decide);rw [op2 this];exact (w6 (by omega)).trans (by omega)))<|.yw (.build Z (Fx.bld33_0 _))<|.sW bQ Z Z Fx.size33 (by simp [Value.oneCell',aB]) Z<|.nt<|.rt<|.bR<|.tR<|?_
   exact Sx.ret1 (.inl rfl) rfl (.cell rfl Fx.agg33 aW rfl) fun W t=>⟨(_,_,H),by rw [show mU M d rec k b1=_ from by rw [mU,if_pos (by omega)]];exact ⟨.refl,dM (args:=[]) (nm:=[]) (by decide) (Rep.empty (by decide)),hz15⟩,rfl,(t.p2_1 [0] rfl)⟩
  try simp only [df] at h11
  refine .cu (X:=Bool) [(0,_),(1,_),(4,_),(5,_)] ⟨rfl,rfl,rfl,rfl,trivial⟩ (fun z=>[(18,.bool z)]) (fun z=>H) (fun z=>(.box b (mkC M arV z10 left) 172::.box b4 [.int .i64 0,.string ⟨#[]⟩,.int .i64 0,.slice none 0 0] 33::bs)) (fun z=>z=decide (k=1∨(1<d∧4<k))) ?_ fun z hC=>?_
  ·
   refine .rg<|.mv Z<|.yw (.eql Z Z)<|.mv Z<|.b2 (fun h21=>?_) (fun h21=>?_)
   ·try simp only [dt] at h21
    exact .gG<|.gG<|.gG<|.gV<|.gV<|.gG<|.yw (.pickT Z Z)<|.a Z Z<|.nt<|.me _ ⟨rfl,trivial⟩ ⟨rfl,rfl,rfl,rfl,trivial⟩ (fun _ s=>s) (by rw [Bool.eq_iff_iff,decide_eq_true_eq];first | (rw [decide_eq_true_eq];omega) | exact ⟨fun _=>by omega,fun _=>rfl⟩ | exact ⟨fun h=>(by cases h),fun h=>by omega⟩)
   try simp only [df] at h21
   refine .gd Z Z<|.yw (.move Z)<|.gd Z Z<|.yw (.gtr Z Z)<|.gd Z Z<|.yw (.move Z)<|.b2 (fun h24=>?_) (fun h24=>?_)
   ·try simp only [dt] at h24
    exact .gd Z Z<|.yw (.move Z)<|.gd Z Z<|.yw (.gtr Z Z)<|.gd Z Z<|.yw (.pickT Z Z)<|.yw (.pickF Z Z)<|.a Z Z<|.nt<|.me _ ⟨rfl,trivial⟩ ⟨rfl,rfl,rfl,rfl,trivial⟩ (fun _ s=>s) (by rw [Bool.eq_iff_iff,decide_eq_true_eq];first | (rw [decide_eq_true_eq];omega) | exact ⟨fun _=>by omega,fun _=>rfl⟩ | exact ⟨fun h=>(by cases h),fun h=>by omega⟩)
   try simp only [df] at h24
   exact .gG<|.gG<|.gd Z Z<|.yw (.pickF Z Z)<|.yw (.pickF Z Z)<|.a Z Z<|.nt<|.me _ ⟨rfl,trivial⟩ ⟨rfl,rfl,rfl,rfl,trivial⟩ (fun _ s=>s) (by rw [Bool.eq_iff_iff,decide_eq_true_eq];first | (rw [decide_eq_true_eq];omega) | exact ⟨fun _=>by omega,fun _=>rfl⟩ | exact ⟨fun h=>(by cases h),fun h=>by omega⟩)
  have e18:=hC;refine .cd Z (fun h18=>?_) (fun h18=>?_)
  ·have q18:k=1∨(1<d∧4<k):=by rw [h18] at e18;exact of_decide_eq_true e18.symm
   refine .sr<|.yw (.build Z (Fx.bld33_0_1 _ _))<|.sW bQ Z Z Fx.size33 (by simp [Value.oneCell',aB]) Z<|.nt<|.rt<|.bR<|.tR<|?_
   exact Sx.ret1 (.inl rfl) rfl (.cell rfl Fx.agg33 aW rfl) fun W t=>⟨(_,_,H),by rw [show mU M d rec k b1=_ from by rw [mU,if_neg (by omega),if_pos (by omega)]];exact ⟨.refl,dM (args:=[]) (nm:=[98,48]) (by decide) (Rep.empty (by decide)),hz10⟩,rfl,(t.p2_1 [0] rfl)⟩
  have q18:¬ (k=1∨(1<d∧4<k)):=by rw [h18] at e18;exact of_decide_eq_false e18.symm
  refine .cu (X:=Bool) [(0,_),(1,_),(4,_),(5,_)] ⟨rfl,rfl,rfl,rfl,trivial⟩ (fun z=>[(30,.bool z)]) (fun z=>H) (fun z=>(.box b (mkC M arV z10 left) 172::.box b4 [.int .i64 0,.string ⟨#[]⟩,.int .i64 0,.slice none 0 0] 33::bs)) (fun z=>z=decide (k=2∧0<M.flags)) ?_ fun z hC=>?_
  ·
   refine .rg<|.mv Z<|.yw (.eql Z Z)<|.mv Z<|.b2 (fun h33=>?_) (fun h33=>?_)
   ·try simp only [dt] at h33
    exact .gd Z Z<|.yw (.move Z)<|.gd Z Z<|.yw (.nilCheck Z)<|.gd Z Z<|.yw (.fieldAddr Z Fx.field172_2)<|.gd Z Z<|.yw (.load Z Fx.agg3 (.head _) Z)<|.gd Z Z<|.yw (.gtr Z Z)<|.yw (.pickT Z Z)<|.a Z Z<|.nt<|.me _ ⟨rfl,trivial⟩ ⟨rfl,rfl,rfl,rfl,trivial⟩ (fun _ s=>s) (by rw [Bool.eq_iff_iff,decide_eq_true_eq];first | (rw [decide_eq_true_eq];omega) | exact ⟨fun _=>by omega,fun _=>rfl⟩ | exact ⟨fun h=>(by cases h),fun h=>by omega⟩)
   try simp only [df] at h33
   exact .gG<|.gG<|.gG<|.gG<|.gG<|.yw (.pickF Z Z)<|.a Z Z<|.nt<|.me _ ⟨rfl,trivial⟩ ⟨rfl,rfl,rfl,rfl,trivial⟩ (fun _ s=>s) (by rw [Bool.eq_iff_iff,decide_eq_true_eq];first | (rw [decide_eq_true_eq];omega) | exact ⟨fun _=>by omega,fun _=>rfl⟩ | exact ⟨fun h=>(by cases h),fun h=>by omega⟩)
  have e30:=hC;refine .cd Z (fun h30=>?_) (fun h30=>?_)
  ·have q30:k=2∧0<M.flags:=by rw [h30] at e30;exact of_decide_eq_true e30.symm
   refine .sq<|.fL 10 [(1,0),(2,0),(3,0),(4,0),(5,0),(0,1),(6,2),(7,0),(8,0),(9,0)]<|.mv Z<|.mv Z<|.yw (.nilCheck Z)<|.yw (.fieldAddr Z Fx.field172_2)<|.yw (.load Z Fx.agg3 (.head _) Z)<|.ct (X:=Value) Fx.call65 Z (fun W s=>fF H 102 2 (by omega) W s.agr) Z fun v40 H40 hn40 u40=>?_
   obtain ⟨pn40,cn40,e40,_⟩:=hn40.sl;simp only [List.cons.injEq,and_true,List.length_map,dN] at e40;subst e40;obtain ⟨bE,oE,hpE,mE⟩:=jC hn40 (k:=(aE b1 M.flags).1) (by have:=bX b1 (n:=M.flags) (by omega);have:=hM.2.2.2;omega);subst hpE;refine .cs (X:=Value) Fx.call143 Z (fun W s=>gD M.flags (by omega) (hz10.up u40.up)  (s.p2_2 [0,1] Z)) Z fun z46 hz46=>.yw (.indexSl Fx.sl52 Z Z (i:=(aE b1 M.flags).1) Z (by have:=bX b1 (n:=M.flags) (by omega);have:=hM.2.2.2;omega) (q:=oE+(aE b1 M.flags).1 * 1) Z)<|.yw (.loadM Z Fx.agg9 mE (k:=0) Z Z)<|.yw (.build Z (Fx.bld33_0_1 _ _))<|.fn (tl:=[_]) Z<|.sW bQ Z Z Fx.size33 (by simp [Value.oneCell',aB]) Z<|.nt<|.rt<|.bR<|.tR<|?_
   exact Sx.ret1 (.inl rfl) rfl (.cell rfl Fx.agg33 aW rfl) fun W t=>⟨(_,_,H40),by rw [show mU M d rec k b1=_ from by rw [mU,if_neg (by omega),if_neg (by omega),if_pos (by omega)]];exact ⟨u40,dM (args:=[]) (by simp [nmB]) (Rep.empty (by decide)),hz46⟩,rfl,(t.p2_1 [0] rfl)⟩
  have q30:¬ (k=2∧0<M.flags):=by rw [h30] at e30;exact of_decide_eq_false e30.symm
  refine .cu (X:=Bool) [(0,_),(1,_),(4,_),(5,_)] ⟨rfl,rfl,rfl,rfl,trivial⟩ (fun z=>[(50,.bool z)]) (fun z=>H) (fun z=>(.box b (mkC M arV z10 left) 172::.box b4 [.int .i64 0,.string ⟨#[]⟩,.int .i64 0,.slice none 0 0] 33::bs)) (fun z=>z=decide (k=3∧0<M.tables)) ?_ fun z hC=>?_
  ·
   refine .rg<|.mv Z<|.yw (.eql Z Z)<|.mv Z<|.b2 (fun h53=>?_) (fun h53=>?_)
   ·try simp only [dt] at h53
    exact .gd Z Z<|.yw (.move Z)<|.gd Z Z<|.yw (.nilCheck Z)<|.gd Z Z<|.yw (.fieldAddr Z Fx.field172_1)<|.gd Z Z<|.yw (.load Z Fx.agg3 (.head _) Z)<|.gd Z Z<|.yw (.gtr Z Z)<|.yw (.pickT Z Z)<|.a Z Z<|.nt<|.me _ ⟨rfl,trivial⟩ ⟨rfl,rfl,rfl,rfl,trivial⟩ (fun _ s=>s) (by rw [Bool.eq_iff_iff,decide_eq_true_eq];first | (rw [decide_eq_true_eq];omega) | exact ⟨fun _=>by omega,fun _=>rfl⟩ | exact ⟨fun h=>(by cases h),fun h=>by omega⟩)
   try simp only [df] at h53
   exact .gG<|.gG<|.gG<|.gG<|.gG<|.yw (.pickF Z Z)<|.a Z Z<|.nt<|.me _ ⟨rfl,trivial⟩ ⟨rfl,rfl,rfl,rfl,trivial⟩ (fun _ s=>s) (by rw [Bool.eq_iff_iff,decide_eq_true_eq];first | (rw [decide_eq_true_eq];omega) | exact ⟨fun _=>by omega,fun _=>rfl⟩ | exact ⟨fun h=>(by cases h),fun h=>by omega⟩)
  have e50:=hC;refine .cd Z (fun h50=>?_) (fun h50=>?_)
  ·have q50:k=3∧0<M.tables:=by rw [h50] at e50;exact of_decide_eq_true e50.symm
   refine .sr<|.mv Z<|.cs (X:=List Value × Value × Hp) Fx.call160 Z (fun W s=>jB M hM 2 (by decide) H w0 W _ b arV _ left b1 hz10  (s.p2_2 [0,1] Z)) Z fun z61 hz61=>?_
   obtain ⟨x61,v61,H61⟩:=z61;obtain ⟨u61,r61,q61⟩:=hz61;dsimp only at u61 r61 q61 ⊢;generalize hE61:(eW M 2 b1).1=e61 at r61;obtain ⟨op61,nm61,n61,a61⟩:=e61;obtain ⟨p61,c61,rfl,hs61,hl61⟩:=bZ r61;refine .bl Z (Fx.bsl31_1 _ _ _ _) Z fun b62=>.yw (.build Z (Fx.bld33_0_1_3 _ _ _ _ _))<|.sW cJ Z Z Fx.size33 (by simp [Value.oneCell',aB]) Z<|.nt<|.rt<|.bR<|.tR<|?_
   refine At.pt (hd:=[_,_,_]) (tl:=bs) (hd':=[_,_,_]) [0,2,1] rfl rfl ?_;refine Sx.freezeBox fun Hf uf mf=>?_;exact Sx.ret1 (.inl rfl) rfl (.cell rfl Fx.agg33 (.head _) rfl) fun W t=>⟨(_,_,Hf),by rw [show mU M d rec k b1=_ from by rw [mU,if_neg (by omega),if_neg (by omega),if_neg (by omega),if_pos (by omega)],hE61];exact ⟨u61.trans uf,dM (nm:=[116,48]) (args:=[.mk op61 nm61 n61 a61]) (by decide) (Rep.mk (n:=1) (c:=1) mf (.single (r61.up uf.up) rfl) rfl (Nat.le_refl _) (by decide)),q61.up uf.up⟩,rfl,t.drop⟩
  have q50:¬ (k=3∧0<M.tables):=by rw [h50] at e50;exact of_decide_eq_false e50.symm
  refine .sr<|.mv Z<|.yw (.eql Z Z)<|.a Z Z<|.nt<|.cd Z (fun h64=>?_) (fun h64=>?_)
  ·try simp only [dt] at h64
   refine .sr<|.mv Z<|.mv Z<|.yw (.add Z Z (c:=((d+1:Nat):Int)) ((w6 (by omega)).trans (by omega)))<|.cs (X:=List Value × Value × Hp) Fx.call159 Z (fun W s=>hrec (by omega) H w0 W _ b arV _ left b1 hz10  (s.p2_2 [0,1] Z)) Z fun z70 hz70=>?_
   obtain ⟨x70,v70,H70⟩:=z70;obtain ⟨u70,r70,q70⟩:=hz70;dsimp only at u70 r70 q70 ⊢;generalize hE70:(rec b1).1=e70 at r70;obtain ⟨op70,nm70,n70,a70⟩:=e70;obtain ⟨p70,c70,rfl,hs70,hl70⟩:=bZ r70;refine .bl Z (Fx.bsl31_1 _ _ _ _) Z fun b71=>.yw (.build Z (Fx.bld33_0_3 _ _ _ _))<|.sW cJ Z Z Fx.size33 (by simp [Value.oneCell',aB]) Z<|.nt<|.rt<|.bR<|.tR<|?_
   refine At.pt (hd:=[_,_,_]) (tl:=bs) (hd':=[_,_,_]) [0,2,1] rfl rfl ?_;refine Sx.freezeBox fun Hf uf mf=>?_;exact Sx.ret1 (.inl rfl) rfl (.cell rfl Fx.agg33 (.head _) rfl) fun W t=>⟨(_,_,Hf),by rw [show mU M d rec k b1=_ from by rw [mU,if_neg (by omega),if_neg (by omega),if_neg (by omega),if_neg (by omega),if_pos (by omega)],hE70];exact ⟨u70.trans uf,dM (nm:=[]) (args:=[.mk op70 nm70 n70 a70]) (by decide) (Rep.mk (n:=1) (c:=1) mf (.single (r70.up uf.up) rfl) rfl (Nat.le_refl _) (by decide)),q70.up uf.up⟩,rfl,t.drop⟩
  try simp only [df] at h64
  refine .cu (X:=Bool) [(0,_),(1,_),(4,_),(5,_)] ⟨rfl,rfl,rfl,rfl,trivial⟩ (fun z=>[(73,.bool z)]) (fun z=>H) (fun z=>(.box b (mkC M arV z10 left) 172::.box b4 [.int .i64 0,.string ⟨#[]⟩,.int .i64 0,.slice none 0 0] 33::bs)) (fun z=>z=decide (k=6∨k=7)) ?_ fun z hC=>?_
  ·
   refine .rg<|.mv Z<|.yw (.eql Z Z)<|.mv Z<|.b2 (fun h76=>?_) (fun h76=>?_)
   ·try simp only [dt] at h76
    exact .gG<|.gG<|.yw (.pickT Z Z)<|.a Z Z<|.nt<|.me _ ⟨rfl,trivial⟩ ⟨rfl,rfl,rfl,rfl,trivial⟩ (fun _ s=>s) (by rw [Bool.eq_iff_iff,decide_eq_true_eq];first | (rw [decide_eq_true_eq];omega) | exact ⟨fun _=>by omega,fun _=>rfl⟩ | exact ⟨fun h=>(by cases h),fun h=>by omega⟩)
   try simp only [df] at h76
   exact .gd Z Z<|.yw (.move Z)<|.gd Z Z<|.yw (.eql Z Z)<|.yw (.pickF Z Z)<|.a Z Z<|.nt<|.me _ ⟨rfl,trivial⟩ ⟨rfl,rfl,rfl,rfl,trivial⟩ (fun _ s=>s) (by rw [Bool.eq_iff_iff,decide_eq_true_eq];first | (rw [decide_eq_true_eq];omega) | exact ⟨fun _=>by omega,fun _=>rfl⟩ | exact ⟨fun h=>(by cases h),fun h=>by omega⟩)
  have e73:=hC;refine .cd Z (fun h73=>?_) (fun h73=>?_)
  ·have q73:k=6∨k=7:=by rw [h73] at e73;exact of_decide_eq_true e73.symm
   refine .sr<|.mv Z<|.mv Z<|.yw (.add Z Z (c:=((d+1:Nat):Int)) ((w6 (by omega)).trans (by omega)))<|.cs (X:=List Value × Value × Hp) Fx.call159 Z (fun W s=>hrec (by omega) H w0 W _ b arV _ left b1 hz10  (s.p2_2 [0,1] Z)) Z fun z83 hz83=>?_
   obtain ⟨x83,v83,H83⟩:=z83;obtain ⟨u83,r83,q83⟩:=hz83;dsimp only at u83 r83 q83 ⊢;generalize hE83:(rec b1).1=e83 at r83;obtain ⟨op83,nm83,n83,a83⟩:=e83;obtain ⟨p83,c83,rfl,hs83,hl83⟩:=bZ r83;refine .al Fx.zero33 Z fun b6=>.sW .head Z Z Fx.size33 (by simp [Value.oneCell',aB]) Z<|.nt<|.sq<|.fL 9 [(0,0),(1,0),(2,0),(3,0),(4,0),(5,0),(6,3),(7,1),(8,0)]<|.mv Z<|.yw (.add Z Z (c:=(((16+UInt8.ofNat k).toNat:Nat):Int)) (by rw [UG hk12];exact (w6 (by omega)).trans (by omega)))<|.yw (.loadW Z Fx.agg33 (.head _) Z)<|.mv Z<|.mv Z<|.yw (.add Z Z (c:=((d+1:Nat):Int)) ((w6 (by omega)).trans (by omega)))<|.c3 (X:=List Value × Value × Hp) Fx.call159 Z (fun W s=>hrec (by omega) H83 w0 W _ b arV _ left (rec b1).2 q83  (s.p3_3 [1,0,2] Z)) Z (fun z90 hz90=>(.dn<|.dn<|.dn<|.yv (.loadW Z Fx.agg33 aW Z)<|.yv (.add Z Z (c:=(((16+UInt8.ofNat k).toNat:Nat):Int)) (by rw [UG hk12];exact (w6 (by omega)).trans (by omega)))<|.yv (.move Z)<|.nl)) fun z90 hz90=>?_
   obtain ⟨x90,v90,H90⟩:=z90;obtain ⟨u90,r90,q90⟩:=hz90;dsimp only at u90 r90 q90 ⊢;generalize hE90:(rec (rec b1).2).1=e90 at r90;obtain ⟨op90,nm90,n90,a90⟩:=e90;obtain ⟨p90,c90,rfl,hs90,hl90⟩:=bZ r90;refine .bl Z (Fx.bsl31_2 _ _ _ _ _ _ _ _) Z fun b91=>.yw (.build Z (Fx.bld33_0_3 _ _ _ _))<|.fn (tl:=[_]) Z<|.sW fQ Z Z Fx.size33 (by simp [Value.oneCell',aB]) Z<|.nt<|.rt<|.bR<|.tR<|?_
   refine At.pt (hd:=[_,_,_,_]) (tl:=bs) (hd':=[_,_,_]) [0,3,1] rfl rfl ?_;refine Sx.freezeBox fun Hf uf mf=>?_;exact Sx.ret1 (.inl rfl) rfl (.cell rfl Fx.agg33 (.head _) rfl) fun W t=>⟨(_,_,Hf),by rw [show mU M d rec k b1=_ from by rw [mU,if_neg (by omega),if_neg (by omega),if_neg (by omega),if_neg (by omega),if_neg (by omega),if_pos (by omega)],hE83,hE90];exact ⟨(u83.trans u90).trans uf,dM (nm:=[]) (args:=[.mk op83 nm83 n83 a83,.mk op90 nm90 n90 a90]) (by decide) (Rep.mk (n:=2) (c:=2) mf (aL.app (aL.single ((r83.up u90.up).up uf.up) rfl) (aL.single (r90.up uf.up) rfl)) rfl (Nat.le_refl _) (by decide)),q90.up uf.up⟩,rfl,t.drop⟩
  have q73:¬ (k=6∨k=7):=by rw [h73] at e73;exact of_decide_eq_false e73.symm
  exact .sk<|.bN<|.tN<|.me () trivial ⟨rfl,rfl,trivial⟩ (fun _ s=>s) (by omega)
 obtain ⟨hc1,hc2,hc3,hc4,hc5,hc6⟩:=hC;refine .sr<|.mv Z<|.cs (X:=Value) Fx.call143 Z (fun W s=>gD 6 (by decide) hz10  (s.p2_2 [0,1] Z)) Z fun z94 hz94=>.yw (.add Z Z (c:=(((16+UInt8.ofNat (aE b1 6).1).toNat:Nat):Int)) (by have:=bX b1 (n:=6) (by decide);rw [UG (by omega)];exact (w6 (by omega)).trans (by omega)))<|.a Z Z<|.ns<|.mv Z<|.cs (X:=List Value × Value × Hp) Fx.call160 Z (fun W s=>jB M hM 2 (by decide) H w0 W _ b arV _ left (aE b1 6).2 hz94  (s.p2_2 [0,1] Z)) Z fun z97 hz97=>?_
 obtain ⟨x97,v97,H97⟩:=z97;obtain ⟨u97,r97,q97⟩:=hz97;dsimp only at u97 r97 q97 ⊢;generalize hE97:(eW M 2 (aE b1 6).2).1=e97 at r97;obtain ⟨op97,nm97,n97,a97⟩:=e97;obtain ⟨p97,c97,rfl,hs97,hl97⟩:=bZ r97;refine .al Fx.zero33 Z fun b8=>.sW .head Z Z Fx.size33 (by simp [Value.oneCell',aB]) Z<|.nt<|.sq<|.fL 6 [(0,0),(1,0),(2,0),(3,3),(4,1),(5,0)]<|.mv Z<|.yw (.loadW Z Fx.agg33 (.head _) Z)<|.mv Z<|.c3 (X:=List Value × Value × Hp) Fx.call160 Z (fun W s=>jB M hM 2 (by decide) H97 w0 W _ b arV _ left (eW M 2 (aE b1 6).2).2 q97  (s.p3_3 [1,0,2] Z)) Z (fun z101 hz101=>(.dn<|.yv (.loadW Z Fx.agg33 aW Z)<|.yv (.move Z)<|.nl)) fun z101 hz101=>?_
 obtain ⟨x101,v101,H101⟩:=z101;obtain ⟨u101,r101,q101⟩:=hz101;dsimp only at u101 r101 q101 ⊢;generalize hE101:(eW M 2 (eW M 2 (aE b1 6).2).2).1=e101 at r101;obtain ⟨op101,nm101,n101,a101⟩:=e101;obtain ⟨p101,c101,rfl,hs101,hl101⟩:=bZ r101;refine .bl Z (Fx.bsl31_2 _ _ _ _ _ _ _ _) Z fun b102=>.yw (.build Z (Fx.bld33_0_3 _ _ _ _))<|.fn (tl:=[_]) Z<|.sW fQ Z Z Fx.size33 (by simp [Value.oneCell',aB]) Z<|.nt<|.rt<|?_
 refine At.pt (hd:=[_,_,_,_]) (tl:=bs) (hd':=[_,_,_]) [0,3,1] rfl rfl ?_;refine Sx.freezeBox fun Hf uf mf=>?_;exact Sx.ret1 (.inl rfl) rfl (.cell rfl Fx.agg33 (.head _) rfl) fun W t=>⟨(_,_,Hf),by rw [show mU M d rec k b1=_ from by rw [mU,if_neg (by omega),if_neg (by omega),if_neg (by omega),if_neg (by omega),if_neg (by omega),if_neg (by omega)],hE97,hE101];exact ⟨(u97.trans u101).trans uf,dM (nm:=[]) (args:=[.mk op97 nm97 n97 a97,.mk op101 nm101 n101 a101]) (by decide) (Rep.mk (n:=2) (c:=2) mf (aL.app (aL.single ((r97.up u101.up).up uf.up) rfl) (aL.single (r101.up uf.up) rfl)) rfl (Nat.le_refl _) (by decide)),q101.up uf.up⟩,rfl,t.drop⟩
theorem oC (M:Mk) (hM:okM M):∀ f,f≤2→PL (jT M f) M (2 - f)
 | 0,_=>uO M hM 2 (by omega) _ (fun h=>by omega)
 | f+1,hf=>by
  have e:2 - (f+1)=1 - f:=by omega
  rw [e];refine uO M hM (1 - f) (by omega) (jT M f) fun _=>?_;rw [show 1 - f+1=2 - f by omega];exact oC M hM f (by omega)
def PP (bd:Bs × Nat→List Sm × (Bs × Nat)) (M:Mk) (d:Nat):Prop:=∀ (H:Hp) (w0 W:World) (bs:List Res) (b:Nat) (arV bv:Value) (lf:Nat) (by_:Bs),lf≤12→Rep H (.seq 1 (M.ars.map dAr)) [arV]→Rep H (.seq 1 ((by_).map dU8)) [bv]→St H w0 (.box b (mkC M arV bv (lf:Nat)) 172::bs) W →
 Calls Tryz.prog 109 #[.pointer (some ⟨b,0,none⟩),.int .i64 (d:Nat)] W fun e W'=>∃ z:Value × Value × Hp,(HUp w0 H z.2.2∧Rep z.2.2 (.seq 6 ((bd (by_,lf)).1.map (dSm .i64))) [z.1]∧Rep z.2.2 (.seq 1 (((bd (by_,lf)).2.1).map dU8)) [z.2.1]∧(bd (by_,lf)).2.2≤12)∧e=.returned z.1∧St z.2.2 w0 (.box b (mkC M arV z.2.1 ((bd (by_,lf)).2.2:Nat)) 172::bs) W'
def XQ (bd:Bs × Nat→List Sm × (Bs × Nat)) (M:Mk) (d:Nat):Prop:=∀ (H:Hp) (w0 W:World) (bs:List Res) (b:Nat) (arV bv:Value) (lf:Nat) (by_:Bs) (k:Nat),lf≤12→Rep H (.seq 1 (M.ars.map dAr)) [arV]→Rep H (.seq 1 ((by_).map dU8)) [bv]→St H w0 (.box b (mkC M arV bv (lf:Nat)) 172::bs) W →
 Calls Tryz.prog 144 #[.pointer (some ⟨b,0,none⟩),.int .i64 (k:Nat),.int .i64 (d:Nat)] W fun e W'=>∃ z:List Value × Value × Hp,(HUp w0 H z.2.2∧Rep z.2.2 (dSm .i64 (cN M k d bd by_ lf).1) z.1∧Rep z.2.2 (.seq 1 (((cN M k d bd by_ lf).2.1).map dU8)) [z.2.1]∧(cN M k d bd by_ lf).2.2≤12)∧e=.returned (.agg z.1.toArray)∧St z.2.2 w0 (.box b (mkC M arV z.2.1 ((cN M k d bd by_ lf).2.2:Nat)) 172::bs) W'
def okA (M:Mk):Prop:=okM M∧0<M.ars.length∧M.ars.length≤3∧M.own<M.ars.length∧∀ l∈M.ars,0<l.length∧l.length≤3∧∀ n∈l,n≤2
theorem okA.len {M:Mk} (h:okA M) {c:Nat} (hc:c<M.ars.length):0<arL M c∧arL M c≤3:=by
 have:=h.2.2.2.2 _ (List.getElem_mem hc);unfold arL;rw [fC hc];exact ⟨this.1,this.2.1⟩
theorem okA.num {M:Mk} (h:okA M) {c k:Nat} (hc:c<M.ars.length) (hk:k<arL M c):arN M c k≤2:=by
 have:=h.2.2.2.2 _ (List.getElem_mem hc);unfold arL at hk;unfold arN;rw [fC hc] at hk ⊢;rw [fC hk];exact this.2.2 _ (List.getElem_mem hk)
theorem PH {H:Hp} {M:Mk} {pA:Option Addr} {cA c:Nat} (h:Rep H (.seq 1 (M.ars.map dAr)) [.slice pA M.ars.length cA]) (hc:c<M.ars.length):∃ b o p k,pA=some ⟨b,o,none⟩∧dS H b (o+c * 1) [.slice p (arL M c) k]∧Rep H (.seq 1 ((M.ars.getD c []).map AM)) [.slice p (arL M c) k]:=by
 obtain ⟨b,o,cs,e,r,l,m⟩:=h.elem (bB (f:=dAr) hc);unfold dAr at r;obtain ⟨p,k,rfl,_⟩:=r.sl;rw [List.length_map] at r m;refine ⟨b,o,p,k,e,?_,?_⟩
 ·unfold arL;rw [fC hc];exact m
 ·unfold arL;rw [fC hc];exact r
theorem FN {H:Hp} {M:Mk} {p:Option Addr} {c k j:Nat} (h:Rep H (.seq 1 ((M.ars.getD c []).map AM)) [.slice p (arL M c) k]) (hj:j<arL M c):∃ b o,p=some ⟨b,o,none⟩∧dS H b (o+j * 1) [.int .i64 (arN M c j:Nat)]:=by
 unfold arL at hj;obtain ⟨b,o,cs,e,r,l,m⟩:=h.elem (bB (f:=AM) hj);unfold AM Rep at r;obtain ⟨rfl,_⟩:=r;refine ⟨b,o,e,?_⟩;unfold arN;rw [fC hj];exact m
theorem oB {c:Nat} (h:c<3):[aB [97],aB [98],aB [99]][c]? = some (aB [UInt8.ofNat (97+c)]):=by
 match c,h with
 | 0,_=>rfl
 | 1,_=>rfl
 | 2,_=>rfl
set_option maxHeartbeats 1000000 in
theorem xH (M:Mk) (hM:okA M) (d:Nat) (hd:d≤3) (bd:Bs × Nat→List Sm × (Bs × Nat)) (hbd:d<3→PP bd M (d+1)):XQ bd M d:=by
 intro H w0 W bs b arV bv lf by_ k hlf hAr hb s;obtain ⟨pA,cA,eA,_⟩:=hAr.sl;simp only [List.cons.injEq,and_true,List.length_map] at eA;subst eA;rw [← List.length_map (f:=dAr)] at hAr;rw [List.length_map] at hAr;have hcapA:=hAr.cap;refine Sx.enterS Tryz.func144 rfl Tryz.ntmps144 rfl s ?_;refine .sr<|.al Fx.zero205 Z fun b6=>.nt<|.cu (X:=Value) [(0,_),(6,_)] ⟨rfl,rfl,trivial⟩ (fun z=>[]) (fun z=>H) (fun z=>(.box b (mkC M (.slice pA M.ars.length cA) z (lf:Nat)) 172::.box b6 [.int .i64 0,.string ⟨#[]⟩,.string ⟨#[]⟩,.slice none 0 0,.slice none 0 0,.slice none 0 0] 205::bs)) (fun z=>Rep H (.seq 1 ((if k=12 then (aE by_ 3).2 else by_).map dU8)) [z]∧¬ k=2∧¬ (k=3∧0<M.tables)∧¬ (k=4∧0<M.tables)∧¬ ((k=5∨k=6)∧d<3)∧¬ (k=7∧d<2)∧¬ (k=8∨k=9)∧¬ k=10∧¬ (k=11∧d<3)∧¬ (k=12∧(aE by_ 3).1=0)) ?_ fun z hC=>?_
 ·
  refine .bk<|.sr<|.mv Z<|.yw (.eql Z Z)<|.a Z Z<|.nt<|.cd Z (fun h18=>?_) (fun h18=>?_)
  ·try simp only [dt] at h18
   refine .sr<|.mv Z<|.cs (X:=List Value × Value × Hp) Fx.call159 Z (fun W s=>oC M hM.1 2 (by decide) H w0 W _ b _ _ _ by_ hb  (s.p2_2 [1,0] Z)) Z fun z22 hz22=>?_
   obtain ⟨x22,v22,H22⟩:=z22;obtain ⟨u22,r22,q22⟩:=hz22;dsimp only at u22 r22 q22 ⊢;generalize hE22:(jT M 2 by_).1=e22 at r22;obtain ⟨op22,nm22,n22,a22⟩:=e22;obtain ⟨p22,c22,rfl,hs22,hl22⟩:=bZ r22;refine .bl Z (Fx.bsl31_1 _ _ _ _) Z fun b23=>.yw (.build Z (Fx.bld205_0_1_3 _ _ _ _ _))<|.sW cJ Z Z Fx.size205 (by simp [Value.oneCell',aB]) Z<|.nt<|.rt<|.bR<|.tR<|?_
   refine At.pt (hd:=[_,_,_]) (tl:=bs) (hd':=[_,_,_]) [0,2,1] rfl rfl ?_;refine Sx.freezeBox fun Hf uf mf=>?_;exact Sx.ret1 (.inl rfl) rfl (.cell rfl Fx.agg205 (.head _) rfl) fun W t=>⟨(_,_,Hf),by rw [show cN M k d bd by_ lf=_ from by rw [cN,if_pos (by omega)],hE22];exact ⟨u22.trans uf,dG (kd:=1) (nm:=[98,48]) (hd:=[]) (ex:=[.mk op22 nm22 n22 a22]) (th:=[]) (el:=[]) (by first | decide | simp [nmB]) (by first | decide | simp [nmB]) (Rep.mk (n:=1) (c:=1) mf (.single ((r22).up uf.up) rfl) rfl (Nat.le_refl _) (by decide)) (Rep.empty (by decide)) (Rep.empty (by decide)),q22.up uf.up,hlf⟩,rfl,by rw [show cN M k d bd by_ lf=_ from by rw [cN,if_pos (by omega)],hE22];exact t.drop⟩
  try simp only [df] at h18
  refine .cu (X:=Bool) [(0,_),(1,_),(2,_),(6,_)] ⟨rfl,rfl,rfl,rfl,trivial⟩ (fun z=>[(25,.bool z)]) (fun z=>H) (fun z=>(.box b (mkC M (.slice pA M.ars.length cA) bv (lf:Nat)) 172::.box b6 [.int .i64 0,.string ⟨#[]⟩,.string ⟨#[]⟩,.slice none 0 0,.slice none 0 0,.slice none 0 0] 205::bs)) (fun z=>z=decide (k=3∧0<M.tables)) ?_ fun z hC=>?_
  ·
   refine .rg<|.mv Z<|.yw (.eql Z Z)<|.mv Z<|.b2 (fun h28=>?_) (fun h28=>?_)
   ·try simp only [dt] at h28
    exact .gd Z Z<|.yw (.move Z)<|.gd Z Z<|.yw (.nilCheck Z)<|.gd Z Z<|.yw (.fieldAddr Z Fx.field172_1)<|.gd Z Z<|.yw (.load Z Fx.agg3 aW Z)<|.gd Z Z<|.yw (.gtr Z Z)<|.yw (.pickT Z Z)<|.a Z Z<|.nt<|.me _ ⟨rfl,trivial⟩ ⟨rfl,rfl,rfl,rfl,trivial⟩ (fun _ s=>(s.p2_2 [1,0] Z)) (by rw [Bool.eq_iff_iff,decide_eq_true_eq];first | (rw [decide_eq_true_eq];omega) | exact ⟨fun _=>by omega,fun _=>rfl⟩ | exact ⟨fun h=>(by cases h),fun h=>by omega⟩)
   try simp only [df] at h28
   exact .gG<|.gG<|.gG<|.gG<|.gG<|.yw (.pickF Z Z)<|.a Z Z<|.nt<|.me _ ⟨rfl,trivial⟩ ⟨rfl,rfl,rfl,rfl,trivial⟩ (fun _ s=>(s.p2_2 [1,0] Z)) (by rw [Bool.eq_iff_iff,decide_eq_true_eq];first | (rw [decide_eq_true_eq];omega) | exact ⟨fun _=>by omega,fun _=>rfl⟩ | exact ⟨fun h=>(by cases h),fun h=>by omega⟩)
  have e25:=hC;refine .cd Z (fun h25=>?_) (fun h25=>?_)
  ·have q25:k=3∧0<M.tables:=by rw [h25] at e25;exact of_decide_eq_true e25.symm
   refine .sr<|.mv Z<|.cs (X:=List Value × Value × Hp) Fx.call160 Z (fun W s=>jB M hM.1 3 (by decide) H w0 W _ b _ _ _ by_ hb  (s.p2_2 [0,1] Z)) Z fun z36 hz36=>?_
   obtain ⟨x36,v36,H36⟩:=z36;obtain ⟨u36,r36,q36⟩:=hz36;dsimp only at u36 r36 q36 ⊢;generalize hE36:(eW M 3 by_).1=e36 at r36;obtain ⟨op36,nm36,n36,a36⟩:=e36;obtain ⟨p36,c36,rfl,hs36,hl36⟩:=bZ r36;refine .mv Z<|.cs (X:=List Value × Value × Hp) Fx.call160 Z (fun W s=>jB M hM.1 3 (by decide) H36 w0 W _ b _ _ _ _ q36  (s.p2_2 [0,1] Z)) Z fun z38 hz38=>?_
   obtain ⟨x38,v38,H38⟩:=z38;obtain ⟨u38,r38,q38⟩:=hz38;dsimp only at u38 r38 q38 ⊢;generalize hE38:(eW M 3 (eW M 3 by_).2).1=e38 at r38;obtain ⟨op38,nm38,n38,a38⟩:=e38;obtain ⟨p38,c38,rfl,hs38,hl38⟩:=bZ r38;refine .bl Z (Fx.bsl31_2 _ _ _ _ _ _ _ _) Z fun b39=>.yw (.build Z (Fx.bld205_0_1_3 _ _ _ _ _))<|.sW cJ Z Z Fx.size205 (by simp [Value.oneCell',aB]) Z<|.nt<|.rt<|.bR<|.tR<|?_
   refine At.pt (hd:=[_,_,_]) (tl:=bs) (hd':=[_,_,_]) [0,2,1] rfl rfl ?_;refine Sx.freezeBox fun Hf uf mf=>?_;exact Sx.ret1 (.inl rfl) rfl (.cell rfl Fx.agg205 (.head _) rfl) fun W t=>⟨(_,_,Hf),by rw [show cN M k d bd by_ lf=_ from by rw [cN,if_neg (by omega),if_pos (by omega)],hE36,hE38];exact ⟨(u36.trans u38).trans uf,dG (kd:=2) (nm:=[116,48]) (hd:=[]) (ex:=[.mk op36 nm36 n36 a36,.mk op38 nm38 n38 a38]) (th:=[]) (el:=[]) (by first | decide | simp [nmB]) (by first | decide | simp [nmB]) (Rep.mk (n:=2) (c:=2) mf (aL.app (aL.single ((r36.up u38.up).up uf.up) rfl) (aL.single (r38.up uf.up) rfl)) rfl (Nat.le_refl _) (by decide)) (Rep.empty (by decide)) (Rep.empty (by decide)),q38.up uf.up,hlf⟩,rfl,by rw [show cN M k d bd by_ lf=_ from by rw [cN,if_neg (by omega),if_pos (by omega)],hE36,hE38];exact t.drop⟩
  have q25:¬ (k=3∧0<M.tables):=by rw [h25] at e25;exact of_decide_eq_false e25.symm
  refine .cu (X:=Bool) [(0,_),(1,_),(2,_),(6,_)] ⟨rfl,rfl,rfl,rfl,trivial⟩ (fun z=>[(41,.bool z)]) (fun z=>H) (fun z=>(.box b (mkC M (.slice pA M.ars.length cA) bv (lf:Nat)) 172::.box b6 [.int .i64 0,.string ⟨#[]⟩,.string ⟨#[]⟩,.slice none 0 0,.slice none 0 0,.slice none 0 0] 205::bs)) (fun z=>z=decide (k=4∧0<M.tables)) ?_ fun z hC=>?_
  ·
   refine .rg<|.mv Z<|.yw (.eql Z Z)<|.mv Z<|.b2 (fun h44=>?_) (fun h44=>?_)
   ·try simp only [dt] at h44
    exact .gd Z Z<|.yw (.move Z)<|.gd Z Z<|.yw (.nilCheck Z)<|.gd Z Z<|.yw (.fieldAddr Z Fx.field172_1)<|.gd Z Z<|.yw (.load Z Fx.agg3 (.head _) Z)<|.gd Z Z<|.yw (.gtr Z Z)<|.yw (.pickT Z Z)<|.a Z Z<|.nt<|.me _ ⟨rfl,trivial⟩ ⟨rfl,rfl,rfl,rfl,trivial⟩ (fun _ s=>s) (by rw [Bool.eq_iff_iff,decide_eq_true_eq];first | (rw [decide_eq_true_eq];omega) | exact ⟨fun _=>by omega,fun _=>rfl⟩ | exact ⟨fun h=>(by cases h),fun h=>by omega⟩)
   try simp only [df] at h44
   exact .gG<|.gG<|.gG<|.gG<|.gG<|.yw (.pickF Z Z)<|.a Z Z<|.nt<|.me _ ⟨rfl,trivial⟩ ⟨rfl,rfl,rfl,rfl,trivial⟩ (fun _ s=>s) (by rw [Bool.eq_iff_iff,decide_eq_true_eq];first | (rw [decide_eq_true_eq];omega) | exact ⟨fun _=>by omega,fun _=>rfl⟩ | exact ⟨fun h=>(by cases h),fun h=>by omega⟩)
  have e41:=hC;refine .cd Z (fun h41=>?_) (fun h41=>?_)
  ·have q41:k=4∧0<M.tables:=by rw [h41] at e41;exact of_decide_eq_true e41.symm
   refine .sr<|.mv Z<|.cs (X:=List Value × Value × Hp) Fx.call160 Z (fun W s=>jB M hM.1 3 (by decide) H w0 W _ b _ _ _ by_ hb  (s.p2_2 [0,1] Z)) Z fun z52 hz52=>?_
   obtain ⟨x52,v52,H52⟩:=z52;obtain ⟨u52,r52,q52⟩:=hz52;dsimp only at u52 r52 q52 ⊢;generalize hE52:(eW M 3 by_).1=e52 at r52;obtain ⟨op52,nm52,n52,a52⟩:=e52;obtain ⟨p52,c52,rfl,hs52,hl52⟩:=bZ r52;refine .bl Z (Fx.bsl31_1 _ _ _ _) Z fun b53=>.yw (.build Z (Fx.bld205_0_1_3 _ _ _ _ _))<|.sW cJ Z Z Fx.size205 (by simp [Value.oneCell',aB]) Z<|.nt<|.rt<|.bR<|.tR<|?_
   refine At.pt (hd:=[_,_,_]) (tl:=bs) (hd':=[_,_,_]) [0,2,1] rfl rfl ?_;refine Sx.freezeBox fun Hf uf mf=>?_;exact Sx.ret1 (.inl rfl) rfl (.cell rfl Fx.agg205 (.head _) rfl) fun W t=>⟨(_,_,Hf),by rw [show cN M k d bd by_ lf=_ from by rw [cN,if_neg (by omega),if_neg (by omega),if_pos (by omega)],hE52];exact ⟨u52.trans uf,dG (kd:=3) (nm:=[116,48]) (hd:=[]) (ex:=[.mk op52 nm52 n52 a52]) (th:=[]) (el:=[]) (by first | decide | simp [nmB]) (by first | decide | simp [nmB]) (Rep.mk (n:=1) (c:=1) mf (.single ((r52).up uf.up) rfl) rfl (Nat.le_refl _) (by decide)) (Rep.empty (by decide)) (Rep.empty (by decide)),q52.up uf.up,hlf⟩,rfl,by rw [show cN M k d bd by_ lf=_ from by rw [cN,if_neg (by omega),if_neg (by omega),if_pos (by omega)],hE52];exact t.drop⟩
  have q41:¬ (k=4∧0<M.tables):=by rw [h41] at e41;exact of_decide_eq_false e41.symm
  refine .cu (X:=Bool) [(0,_),(1,_),(2,_),(6,_)] ⟨rfl,rfl,rfl,rfl,trivial⟩ (fun z=>[(55,.bool z)]) (fun z=>H) (fun z=>(.box b (mkC M (.slice pA M.ars.length cA) bv (lf:Nat)) 172::.box b6 [.int .i64 0,.string ⟨#[]⟩,.string ⟨#[]⟩,.slice none 0 0,.slice none 0 0,.slice none 0 0] 205::bs)) (fun z=>z=decide ((k=5∨k=6)∧d<3)) ?_ fun z hC=>?_
  ·
   refine .rg<|.mv Z<|.yw (.eql Z Z)<|.mv Z<|.b2 (fun h58=>?_) (fun h58=>?_)
   ·try simp only [dt] at h58
    exact .gG<|.gG<|.yw (.pickT Z Z)<|.mv Z<|.gd Z Z<|.yw (.move Z)<|.gd Z Z<|.yw (.lss Z Z)<|.yw (.pickT Z Z)<|.a Z Z<|.nt<|.me _ ⟨rfl,trivial⟩ ⟨rfl,rfl,rfl,rfl,trivial⟩ (fun _ s=>s) (by rw [Bool.eq_iff_iff,decide_eq_true_eq];first | (rw [decide_eq_true_eq];omega) | exact ⟨fun _=>by omega,fun _=>rfl⟩ | exact ⟨fun h=>(by cases h),fun h=>by omega⟩)
   try simp only [df] at h58
   refine .gd Z Z<|.yw (.move Z)<|.gd Z Z<|.yw (.eql Z Z)<|.yw (.pickF Z Z)<|.mv Z<|.b2 (fun h62=>?_) (fun h62=>?_)
   ·try simp only [dt] at h62
    exact .gd Z Z<|.yw (.move Z)<|.gd Z Z<|.yw (.lss Z Z)<|.yw (.pickT Z Z)<|.a Z Z<|.nt<|.me _ ⟨rfl,trivial⟩ ⟨rfl,rfl,rfl,rfl,trivial⟩ (fun _ s=>s) (by rw [Bool.eq_iff_iff,decide_eq_true_eq];first | (rw [decide_eq_true_eq];omega) | exact ⟨fun _=>by omega,fun _=>rfl⟩ | exact ⟨fun h=>(by cases h),fun h=>by omega⟩)
   try simp only [df] at h62
   exact .gG<|.gG<|.yw (.pickF Z Z)<|.a Z Z<|.nt<|.me _ ⟨rfl,trivial⟩ ⟨rfl,rfl,rfl,rfl,trivial⟩ (fun _ s=>s) (by rw [Bool.eq_iff_iff,decide_eq_true_eq];first | (rw [decide_eq_true_eq];omega) | exact ⟨fun _=>by omega,fun _=>rfl⟩ | exact ⟨fun h=>(by cases h),fun h=>by omega⟩)
  have e55:=hC;refine .cd Z (fun h55=>?_) (fun h55=>?_)
  ·have q55:(k=5∨k=6)∧d<3:=by rw [h55] at e55;exact of_decide_eq_true e55.symm
   refine .sr<|.mv Z<|.cs (X:=List Value × Value × Hp) Fx.call159 Z (fun W s=>oC M hM.1 2 (by decide) H w0 W _ b _ _ _ by_ hb  (s.p2_2 [0,1] Z)) Z fun z67 hz67=>?_
   obtain ⟨x67,v67,H67⟩:=z67;obtain ⟨u67,r67,q67⟩:=hz67;dsimp only at u67 r67 q67 ⊢;generalize hE67:(jT M 2 by_).1=e67 at r67;obtain ⟨op67,nm67,n67,a67⟩:=e67;obtain ⟨p67,c67,rfl,hs67,hl67⟩:=bZ r67;refine .al Fx.zero33 Z fun b7=>.sW .head Z Z Fx.size33 (by simp [Value.oneCell',aB]) Z<|.ns<|.mv Z<|.mv Z<|.yw (.add Z Z (c:=((d+1:Nat):Int)) ((w6 (by omega)).trans (by omega)))<|.cs (X:=Value × Value × Hp) Fx.call109 Z (fun W s=>hbd (by omega) H67 w0 W _ b _ _ lf _ hlf (hAr.up u67.up) q67  (s.p3_3 [1,0,2] Z)) Z fun z71 hz71=>?_
   obtain ⟨x71,v71,H71⟩:=z71;obtain ⟨u71,r71,q71,l71⟩:=hz71;dsimp only at u71 r71 q71 ⊢;obtain ⟨pb71,cb71,eb71,_⟩:=r71.sl;simp only [List.cons.injEq,and_true,List.length_map] at eb71;subst eb71;refine .a Z Z<|.nt<|.sq<|.ft (p:=.light _ _ (.light _ _ (.light _ _ (.light _ _ (.light _ _ (.alt _ _ _ (.alt _ _ _ (.light _ _ (.done)) (.no)) (.alt _ _ _ (.alt _ _ _ (.light _ _ (.done)) (.no)) (.no)))))))) 8 (.light 0 (.light 2 (.light 3 (.light 4 (.light 5 (.alt 1 0 (.alt 6 2 (.light 7 (.done)) (.no)) (.alt 6 2 (.alt 1 0 (.light 7 (.done)) (.no)) (.no)))))))) (by kernel_rfl) (by kernel_rfl) Z<|.yw (.loadW Z Fx.agg33 aW Z)<|.mv Z<|.mv Z<|.mv Z<|.yw (.add Z Z (c:=((d+1:Nat):Int)) ((w6 (by omega)).trans (by omega)))<|.h ?_ (.h ?_ .nn)
   ·
    refine .bl Z (Fx.bsl31_1 _ _ _ _) Z fun b73=>.h1<|.c3 (X:=Value × Value × Hp) Fx.call109 Z (fun W s=>hbd (by omega) H71 w0 W _ b _ _ _ _ l71 (hAr.up (u67.trans u71).up) q71  (s.p4_4 [1,0,2,3] Z)) Z (fun z78 hz78=>(.dn<|.dn<|.dn<|.yv (.move Z)<|.yv (.loadW Z Fx.agg33 cC Z)<|.nl)) fun z78 hz78=>?_
    obtain ⟨x78,v78,H78⟩:=z78;obtain ⟨u78,r78,q78,l78⟩:=hz78;dsimp only at u78 r78 q78 ⊢;obtain ⟨pb78,cb78,eb78,_⟩:=r78.sl;simp only [List.cons.injEq,and_true,List.length_map] at eb78;subst eb78;refine .yw (.build Z (Fx.bld205_0_3_4_5 _ _ _ _ _ _ _ _ _ _))<|.fn (tl:=[_]) Z<|.sW fQ Z Z Fx.size205 (by simp [Value.oneCell',aB]) Z<|.nt<|.rt<|.bR<|.tR<|?_
    refine At.pt (hd:=[_,_,_,_]) (tl:=bs) (hd':=[_,_,_]) [1,3,0] rfl rfl ?_;refine Sx.freezeBox fun Hf uf mf=>?_;exact Sx.ret1 (.inl rfl) rfl (.cell rfl Fx.agg205 (.head _) rfl) fun W t=>⟨(_,_,Hf),by rw [show cN M k d bd by_ lf=_ from by rw [cN,if_neg (by omega),if_neg (by omega),if_neg (by omega),if_pos (by omega)],hE67];exact ⟨(u67.trans (u71.trans u78)).trans uf,dG (kd:=4) (nm:=[]) (hd:=[]) (ex:=[.mk op67 nm67 n67 a67]) (th:=_) (el:=_) (by first | decide | simp [nmB]) (by first | decide | simp [nmB]) (Rep.mk (n:=1) (c:=1) mf (.single ((r67.up (u71.trans u78).up).up uf.up) rfl) rfl (Nat.le_refl _) (by decide)) ((r71.up u78.up).up uf.up) (r78.up uf.up),q78.up uf.up,l78⟩,rfl,by rw [show cN M k d bd by_ lf=_ from by rw [cN,if_neg (by omega),if_neg (by omega),if_neg (by omega),if_pos (by omega)],hE67];exact t.drop⟩
   refine .c3 (X:=Value × Value × Hp) Fx.call109 Z (fun W s=>hbd (by omega) H71 w0 W _ b _ _ _ _ l71 (hAr.up (u67.trans u71).up) q71  (s.p3_3 [0,1,2] Z)) Z (fun z78 hz78=>(.dn<|.dn<|.dn<|.yv (.move Z)<|.yv (.loadW Z Fx.agg33 aW Z)<|.nl)) fun z78 hz78=>?_;obtain ⟨x78,v78,H78⟩:=z78;obtain ⟨u78,r78,q78,l78⟩:=hz78;dsimp only at u78 r78 q78 ⊢;obtain ⟨pb78,cb78,eb78,_⟩:=r78.sl;simp only [List.cons.injEq,and_true,List.length_map] at eb78;subst eb78;refine .h1<|.bl Z (Fx.bsl31_1 _ _ _ _) Z fun b73=>.yw (.build Z (Fx.bld205_0_3_4_5 _ _ _ _ _ _ _ _ _ _))<|.fn (tl:=[_]) Z<|.sW fQ Z Z Fx.size205 (by simp [Value.oneCell',aB]) Z<|.nt<|.rt<|.bR<|.tR<|?_
   refine At.pt (hd:=[_,_,_,_]) (tl:=bs) (hd':=[_,_,_]) [0,3,1] rfl rfl ?_;refine Sx.freezeBox fun Hf uf mf=>?_;exact Sx.ret1 (.inl rfl) rfl (.cell rfl Fx.agg205 (.head _) rfl) fun W t=>⟨(_,_,Hf),by rw [show cN M k d bd by_ lf=_ from by rw [cN,if_neg (by omega),if_neg (by omega),if_neg (by omega),if_pos (by omega)],hE67];exact ⟨(u67.trans (u71.trans u78)).trans uf,dG (kd:=4) (nm:=[]) (hd:=[]) (ex:=[.mk op67 nm67 n67 a67]) (th:=_) (el:=_) (by first | decide | simp [nmB]) (by first | decide | simp [nmB]) (Rep.mk (n:=1) (c:=1) mf (.single ((r67.up (u71.trans u78).up).up uf.up) rfl) rfl (Nat.le_refl _) (by decide)) ((r71.up u78.up).up uf.up) (r78.up uf.up),q78.up uf.up,l78⟩,rfl,by rw [show cN M k d bd by_ lf=_ from by rw [cN,if_neg (by omega),if_neg (by omega),if_neg (by omega),if_pos (by omega)],hE67];exact t.drop⟩
  have q55:¬ ((k=5∨k=6)∧d<3):=by rw [h55] at e55;exact of_decide_eq_false e55.symm
  refine .cu (X:=Bool) [(0,_),(1,_),(2,_),(6,_)] ⟨rfl,rfl,rfl,rfl,trivial⟩ (fun z=>[(80,.bool z)]) (fun z=>H) (fun z=>(.box b (mkC M (.slice pA M.ars.length cA) bv (lf:Nat)) 172::.box b6 [.int .i64 0,.string ⟨#[]⟩,.string ⟨#[]⟩,.slice none 0 0,.slice none 0 0,.slice none 0 0] 205::bs)) (fun z=>z=decide (k=7∧d<2)) ?_ fun z hC=>?_
  ·
   refine .rg<|.mv Z<|.yw (.eql Z Z)<|.mv Z<|.b2 (fun h83=>?_) (fun h83=>?_)
   ·try simp only [dt] at h83
    exact .gd Z Z<|.yw (.move Z)<|.gd Z Z<|.yw (.lss Z Z)<|.yw (.pickT Z Z)<|.a Z Z<|.nt<|.me _ ⟨rfl,trivial⟩ ⟨rfl,rfl,rfl,rfl,trivial⟩ (fun _ s=>s) (by rw [Bool.eq_iff_iff,decide_eq_true_eq];first | (rw [decide_eq_true_eq];omega) | exact ⟨fun _=>by omega,fun _=>rfl⟩ | exact ⟨fun h=>(by cases h),fun h=>by omega⟩)
   try simp only [df] at h83
   exact .gG<|.gG<|.yw (.pickF Z Z)<|.a Z Z<|.nt<|.me _ ⟨rfl,trivial⟩ ⟨rfl,rfl,rfl,rfl,trivial⟩ (fun _ s=>s) (by rw [Bool.eq_iff_iff,decide_eq_true_eq];first | (rw [decide_eq_true_eq];omega) | exact ⟨fun _=>by omega,fun _=>rfl⟩ | exact ⟨fun h=>(by cases h),fun h=>by omega⟩)
  have e80:=hC;refine .cd Z (fun h80=>?_) (fun h80=>?_)
  ·have q80:k=7∧d<2:=by rw [h80] at e80;exact of_decide_eq_true e80.symm
   refine .sr<|.mv Z<|.cs (X:=List Value × Value × Hp) Fx.call159 Z (fun W s=>oC M hM.1 2 (by decide) H w0 W _ b _ _ _ by_ hb  (s.p2_2 [0,1] Z)) Z fun z88 hz88=>?_
   obtain ⟨x88,v88,H88⟩:=z88;obtain ⟨u88,r88,q88⟩:=hz88;dsimp only at u88 r88 q88 ⊢;generalize hE88:(jT M 2 by_).1=e88 at r88;obtain ⟨op88,nm88,n88,a88⟩:=e88;obtain ⟨p88,c88,rfl,hs88,hl88⟩:=bZ r88;refine .al Fx.zero33 Z fun b9=>.sW .head Z Z Fx.size33 (by simp [Value.oneCell',aB]) Z<|.nt<|.sq<|.ft (p:=.light _ _ (.light _ _ (.light _ _ (.light _ _ (.alt _ _ _ (.alt _ _ _ (.light _ _ (.done)) (.no)) (.alt _ _ _ (.alt _ _ _ (.light _ _ (.done)) (.no)) (.no))))))) 7 (.light 0 (.light 2 (.light 3 (.light 4 (.alt 1 0 (.alt 5 2 (.light 6 (.done)) (.no)) (.alt 5 2 (.alt 1 0 (.light 6 (.done)) (.no)) (.no))))))) (by kernel_rfl) (by kernel_rfl) Z<|.yw (.loadW Z Fx.agg33 (.head _) Z)<|.mv Z<|.mv Z<|.yw (.add Z Z (c:=((d+1:Nat):Int)) ((w6 (by omega)).trans (by omega)))<|.h ?_ (.h ?_ .nn)
   ·
    refine .bl Z (Fx.bsl31_1 _ _ _ _) Z fun b90=>.h1<|.c3 (X:=Value × Value × Hp) Fx.call109 Z (fun W s=>hbd (by omega) H88 w0 W _ b _ _ lf _ hlf (hAr.up u88.up) q88  (s.p4_4 [2,0,1,3] Z)) Z (fun z94 hz94=>(.dn<|.dn<|.dn<|.yv (.loadW Z Fx.agg33 cC Z)<|.nl)) fun z94 hz94=>?_
    obtain ⟨x94,v94,H94⟩:=z94;obtain ⟨u94,r94,q94,l94⟩:=hz94;dsimp only at u94 r94 q94 ⊢;obtain ⟨pb94,cb94,eb94,_⟩:=r94.sl;simp only [List.cons.injEq,and_true,List.length_map] at eb94;subst eb94;refine .yw (.build Z (Fx.bld205_0_3_4 _ _ _ _ _ _ _))<|.fn (tl:=[_]) Z<|.sW fQ Z Z Fx.size205 (by simp [Value.oneCell',aB]) Z<|.nt<|.rt<|.bR<|.tR<|?_
    refine At.pt (hd:=[_,_,_,_]) (tl:=bs) (hd':=[_,_,_]) [1,3,0] rfl rfl ?_;refine Sx.freezeBox fun Hf uf mf=>?_;exact Sx.ret1 (.inl rfl) rfl (.cell rfl Fx.agg205 (.head _) rfl) fun W t=>⟨(_,_,Hf),by rw [show cN M k d bd by_ lf=_ from by rw [cN,if_neg (by omega),if_neg (by omega),if_neg (by omega),if_neg (by omega),if_pos (by omega)],hE88];exact ⟨(u88.trans u94).trans uf,dG (kd:=5) (nm:=[]) (hd:=[]) (ex:=[.mk op88 nm88 n88 a88]) (th:=_) (el:=[]) (by first | decide | simp [nmB]) (by first | decide | simp [nmB]) (Rep.mk (n:=1) (c:=1) mf (.single ((r88.up (u94).up).up uf.up) rfl) rfl (Nat.le_refl _) (by decide)) (r94.up uf.up) (Rep.empty (by decide)),q94.up uf.up,l94⟩,rfl,by rw [show cN M k d bd by_ lf=_ from by rw [cN,if_neg (by omega),if_neg (by omega),if_neg (by omega),if_neg (by omega),if_pos (by omega)],hE88];exact t.drop⟩
   refine .c3 (X:=Value × Value × Hp) Fx.call109 Z (fun W s=>hbd (by omega) H88 w0 W _ b _ _ lf _ hlf (hAr.up u88.up) q88  (s.p3_3 [1,0,2] Z)) Z (fun z94 hz94=>(.dn<|.dn<|.dn<|.yv (.loadW Z Fx.agg33 aW Z)<|.nl)) fun z94 hz94=>?_;obtain ⟨x94,v94,H94⟩:=z94;obtain ⟨u94,r94,q94,l94⟩:=hz94;dsimp only at u94 r94 q94 ⊢;obtain ⟨pb94,cb94,eb94,_⟩:=r94.sl;simp only [List.cons.injEq,and_true,List.length_map] at eb94;subst eb94;refine .h1<|.bl Z (Fx.bsl31_1 _ _ _ _) Z fun b90=>.yw (.build Z (Fx.bld205_0_3_4 _ _ _ _ _ _ _))<|.fn (tl:=[_]) Z<|.sW fQ Z Z Fx.size205 (by simp [Value.oneCell',aB]) Z<|.nt<|.rt<|.bR<|.tR<|?_
   refine At.pt (hd:=[_,_,_,_]) (tl:=bs) (hd':=[_,_,_]) [0,3,1] rfl rfl ?_;refine Sx.freezeBox fun Hf uf mf=>?_;exact Sx.ret1 (.inl rfl) rfl (.cell rfl Fx.agg205 (.head _) rfl) fun W t=>⟨(_,_,Hf),by rw [show cN M k d bd by_ lf=_ from by rw [cN,if_neg (by omega),if_neg (by omega),if_neg (by omega),if_neg (by omega),if_pos (by omega)],hE88];exact ⟨(u88.trans u94).trans uf,dG (kd:=5) (nm:=[]) (hd:=[]) (ex:=[.mk op88 nm88 n88 a88]) (th:=_) (el:=[]) (by first | decide | simp [nmB]) (by first | decide | simp [nmB]) (Rep.mk (n:=1) (c:=1) mf (.single ((r88.up (u94).up).up uf.up) rfl) rfl (Nat.le_refl _) (by decide)) (r94.up uf.up) (Rep.empty (by decide)),q94.up uf.up,l94⟩,rfl,by rw [show cN M k d bd by_ lf=_ from by rw [cN,if_neg (by omega),if_neg (by omega),if_neg (by omega),if_neg (by omega),if_pos (by omega)],hE88];exact t.drop⟩
  have q80:¬ (k=7∧d<2):=by rw [h80] at e80;exact of_decide_eq_false e80.symm
  refine .cu (X:=Bool) [(0,_),(1,_),(2,_),(6,_)] ⟨rfl,rfl,rfl,rfl,trivial⟩ (fun z=>[(96,.bool z)]) (fun z=>H) (fun z=>(.box b (mkC M (.slice pA M.ars.length cA) bv (lf:Nat)) 172::.box b6 [.int .i64 0,.string ⟨#[]⟩,.string ⟨#[]⟩,.slice none 0 0,.slice none 0 0,.slice none 0 0] 205::bs)) (fun z=>z=decide (k=8∨k=9)) ?_ fun z hC=>?_
  ·
   refine .rg<|.mv Z<|.yw (.eql Z Z)<|.mv Z<|.b2 (fun h99=>?_) (fun h99=>?_)
   ·try simp only [dt] at h99
    exact .gG<|.gG<|.yw (.pickT Z Z)<|.a Z Z<|.nt<|.me _ ⟨rfl,trivial⟩ ⟨rfl,rfl,rfl,rfl,trivial⟩ (fun _ s=>s) (by rw [Bool.eq_iff_iff,decide_eq_true_eq];first | (rw [decide_eq_true_eq];omega) | exact ⟨fun _=>by omega,fun _=>rfl⟩ | exact ⟨fun h=>(by cases h),fun h=>by omega⟩)
   try simp only [df] at h99
   exact .gd Z Z<|.yw (.move Z)<|.gd Z Z<|.yw (.eql Z Z)<|.yw (.pickF Z Z)<|.a Z Z<|.nt<|.me _ ⟨rfl,trivial⟩ ⟨rfl,rfl,rfl,rfl,trivial⟩ (fun _ s=>s) (by rw [Bool.eq_iff_iff,decide_eq_true_eq];first | (rw [decide_eq_true_eq];omega) | exact ⟨fun _=>by omega,fun _=>rfl⟩ | exact ⟨fun h=>(by cases h),fun h=>by omega⟩)
  have e96:=hC;refine .cd Z (fun h96=>?_) (fun h96=>?_)
  ·have q96:k=8∨k=9:=by rw [h96] at e96;exact of_decide_eq_true e96.symm
   refine .sr<|.mv Z<|.mv Z<|.yw (.nilCheck Z)<|.yw (.fieldAddr Z Fx.field172_4)<|.yw (.load Z Fx.agg169 (.head _) Z)<|.yw (.lenSl Fx.sl169 Z)<|.cs (X:=Value) Fx.call143 Z (fun W s=>gD M.ars.length hM.2.1 hb  (s.p2_2 [0,1] Z)) Z fun z109 hz109=>?_
   have hc:=bX by_ hM.2.1;have hc3:=hM.2.2.1;have hal:=hM.len hc;obtain ⟨bA,oA,pR,cR,hpA,mA,hR⟩:=PH hAr hc;subst hpA;refine .a Z Z<|.ns<|.mv Z<|.mv Z<|.yw (.nilCheck Z)<|.yw (.fieldAddr Z Fx.field172_4)<|.yw (.load Z Fx.agg169 (.head _) Z)<|.mv Z<|.yw (.indexSl Fx.sl169 Z Z (i:=(aE by_ M.ars.length).1) Z (by omega) (q:=oA+(aE by_ M.ars.length).1 * 1) Z)<|.yw (.loadM Z Fx.agg129 mA (k:=0) Z Z)<|.yw (.lenSl Fx.sl129 Z)<|.cs (X:=Value) Fx.call143 Z (fun W s=>gD (arL M (aE by_ M.ars.length).1) hal.1 hz109  (s.p2_2 [0,1] Z)) Z fun z119 hz119=>?_
   have hh:=bX (aE by_ M.ars.length).2 hal.1;have hn2:=hM.num hc hh;obtain ⟨bR,oR,hpR,mR⟩:=FN hR hh;subst hpR;refine .a Z Z<|.nt<|.sq<|.ft (p:=.light _ _ (.light _ _ (.light _ _ (.light _ _ (.light _ _ (.light _ _ (.light _ _ (.light _ _ (.light _ _ (.light _ _ (.light _ _ (.light _ _ (.light _ _ (.alt _ _ _ (.light _ _ (.light _ _ (.alt _ _ _ (.light _ _ (.light _ _ (.alt _ _ _ (.light _ _ (.done)) (.no)))) (.no)))) (.alt _ _ _ (.light _ _ (.light _ _ (.alt _ _ _ (.light _ _ (.light _ _ (.alt _ _ _ (.light _ _ (.done)) (.no)))) (.alt _ _ _ (.alt _ _ _ (.light _ _ (.light _ _ (.light _ _ (.done)))) (.no)) (.no))))) (.no)))))))))))))))) 21 (.light 1 (.light 5 (.light 8 (.light 9 (.light 10 (.light 11 (.light 12 (.light 13 (.light 14 (.light 15 (.light 16 (.light 17 (.light 18 (.alt 0 0 (.light 2 (.light 3 (.alt 4 0 (.light 6 (.light 7 (.alt 19 2 (.light 20 (.done)) (.no)))) (.no)))) (.alt 4 0 (.light 6 (.light 7 (.alt 0 0 (.light 2 (.light 3 (.alt 19 2 (.light 20 (.done)) (.no)))) (.alt 19 2 (.alt 0 0 (.light 2 (.light 3 (.light 20 (.done)))) (.no)) (.no))))) (.no)))))))))))))))) (by kernel_rfl) (by kernel_rfl) Z<|.mv Z<|.mv Z<|.mv Z<|.mv Z<|.yw (.nilCheck Z)<|.yw (.fieldAddr Z Fx.field172_4)<|.yw (.load Z Fx.agg169 (.head _) Z)<|.mv Z<|.yw (.indexSl Fx.sl169 Z Z (i:=(aE by_ M.ars.length).1) Z (by omega) (q:=oA+(aE by_ M.ars.length).1 * 1) Z)<|.yw (.loadM Z Fx.agg129 mA (k:=0) Z Z)<|.mv Z<|.yw (.indexSl Fx.sl129 Z Z (i:=(aE (aE by_ M.ars.length).2 (arL M (aE by_ M.ars.length).1)).1) Z (by omega) (q:=oR+(aE (aE by_ M.ars.length).2 (arL M (aE by_ M.ars.length).1)).1 * 1) Z)<|.yw (.loadM Z Fx.agg3 mR (k:=0) Z Z)<|.h ?_ (.h ?_ .nn)
   ·
    refine .bl Z (Fx.bsl52_3 _ _ _) Z fun b120=>.yw (.indexSl Fx.sl52 Z Z (i:=(aE by_ M.ars.length).1) Z (by omega) (q:=(aE by_ M.ars.length).1) (by omega))<|.yw (.load (v:=aB [UInt8.ofNat (97+(aE by_ M.ars.length).1)]) Z Fx.agg9 (.head _) (oB (by omega)))<|.h1<|.ct (X:=Value) Fx.call65 Z (fun W s=>fF H 104 3 (by omega) W s.agr) Z fun v124 H124 hn124 u124=>?_
    obtain ⟨pn124,cn124,e124,_⟩:=hn124.sl;simp only [List.cons.injEq,and_true,List.length_map,dN] at e124;subst e124;obtain ⟨bE,oE,hpE,mE⟩:=jC hn124 (k:=(aE (aE by_ M.ars.length).2 (arL M (aE by_ M.ars.length).1)).1) (by omega);subst hpE;refine .yw (.indexSl Fx.sl52 Z Z (i:=(aE (aE by_ M.ars.length).2 (arL M (aE by_ M.ars.length).1)).1) Z (by omega) (q:=oE+(aE (aE by_ M.ars.length).2 (arL M (aE by_ M.ars.length).1)).1 * 1) Z)<|.yw (.loadM Z Fx.agg9 mE (k:=0) Z Z)<|.h1<|.c3 (X:=Value × Value × Hp) Fx.call161 Z (fun W s=>iP hM.1 (arN M (aE by_ M.ars.length).1 (aE (aE by_ M.ars.length).2 (arL M (aE by_ M.ars.length).1)).1) (by omega) (hz119.up u124.up)  (s.p3_3 [1,0,2] Z)) Z (fun z139 hz139=>(.yv (.loadM Z Fx.agg9 (mE.up hz139.1.up) (k:=0) Z Z)<|.yv (.indexSl Fx.sl52 Z Z (i:=(aE (aE by_ M.ars.length).2 (arL M (aE by_ M.ars.length).1)).1) Z (by omega) (q:=oE+(aE (aE by_ M.ars.length).2 (arL M (aE by_ M.ars.length).1)).1 * 1) Z)<|.yv (.load (v:=aB [UInt8.ofNat (97+(aE by_ M.ars.length).1)]) Z Fx.agg9 aW (oB (by omega)))<|.yv (.indexSl Fx.sl52 Z Z (i:=(aE by_ M.ars.length).1) Z (by omega) (q:=(aE by_ M.ars.length).1) (by omega))<|.dn<|.dn<|.dn<|.dn<|.dn<|.dn<|.dn<|.dn<|.dn<|.dn<|.dn<|.yv (.move Z)<|.yv (.move Z)<|.nl)) fun z139 hz139=>?_
    obtain ⟨x139,v139,H139⟩:=z139;obtain ⟨u139,⟨xs139,rz139,rs139,rl139⟩,q139⟩:=hz139;dsimp only at u139 rz139 rs139 q139 ⊢;obtain ⟨pn139,cn139,rfl⟩:=rs139.sl;refine .yw (.build Z (Fx.bld205_0_1_2_3 _ _ _ _ _ _))<|.fn (tl:=[_]) Z<|.sW cJ Z Z Fx.size205 (by simp [Value.oneCell',aB]) Z<|.nt<|.rt<|.bR<|.tR<|?_
    refine At.pt (hd:=[_,_,_]) (tl:=bs) (hd':=[_,_]) [2,0] rfl rfl ?_;exact Sx.ret1 (.inl rfl) rfl (.cell rfl Fx.agg205 (.head _) rfl) fun W t=>⟨(_,_,H139),by rw [show cN M k d bd by_ lf=_ from by rw [cN,if_neg (by omega),if_neg (by omega),if_neg (by omega),if_neg (by omega),if_neg (by omega),if_pos (by omega)],EL];exact ⟨(u124.trans u139),dG (kd:=6) (nm:=[UInt8.ofNat (97+(aE by_ M.ars.length).1)]) (hd:=(nmB 104 (aE (aE by_ M.ars.length).2 (arL M (aE by_ M.ars.length).1)).1)) (ex:=_) (th:=[]) (el:=[]) (by first | decide | simp [nmB]) (by first | decide | simp [nmB]) (rs139.rep rz139 (by rw [List.length_map];exact rl139)) (Rep.empty (by decide)) (Rep.empty (by decide)),q139,hlf⟩,rfl,by rw [show cN M k d bd by_ lf=_ from by rw [cN,if_neg (by omega),if_neg (by omega),if_neg (by omega),if_neg (by omega),if_neg (by omega),if_pos (by omega)],EL];exact t.drop⟩
   refine .ct (X:=Value) Fx.call65 Z (fun W s=>fF H 104 3 (by omega) W s.agr) Z fun v124 H124 hn124 u124=>?_;obtain ⟨pn124,cn124,e124,_⟩:=hn124.sl;simp only [List.cons.injEq,and_true,List.length_map,dN] at e124;subst e124;obtain ⟨bE,oE,hpE,mE⟩:=jC hn124 (k:=(aE (aE by_ M.ars.length).2 (arL M (aE by_ M.ars.length).1)).1) (by omega);subst hpE;refine .yw (.indexSl Fx.sl52 Z Z (i:=(aE (aE by_ M.ars.length).2 (arL M (aE by_ M.ars.length).1)).1) Z (by omega) (q:=oE+(aE (aE by_ M.ars.length).2 (arL M (aE by_ M.ars.length).1)).1 * 1) Z)<|.yw (.loadM Z Fx.agg9 mE (k:=0) Z Z)<|.h ?_ (.h ?_ .nn)
   ·
    refine .bl Z (Fx.bsl52_3 _ _ _) Z fun b120=>.yw (.indexSl Fx.sl52 Z Z (i:=(aE by_ M.ars.length).1) Z (by omega) (q:=(aE by_ M.ars.length).1) (by omega))<|.yw (.load (v:=aB [UInt8.ofNat (97+(aE by_ M.ars.length).1)]) Z Fx.agg9 (.head _) (oB (by omega)))<|.h1<|.c3 (X:=Value × Value × Hp) Fx.call161 Z (fun W s=>iP hM.1 (arN M (aE by_ M.ars.length).1 (aE (aE by_ M.ars.length).2 (arL M (aE by_ M.ars.length).1)).1) (by omega) (hz119.up u124.up)  (s.p3_3 [1,0,2] Z)) Z (fun z139 hz139=>(.yv (.load (v:=aB [UInt8.ofNat (97+(aE by_ M.ars.length).1)]) Z Fx.agg9 aW (oB (by omega)))<|.yv (.indexSl Fx.sl52 Z Z (i:=(aE by_ M.ars.length).1) Z (by omega) (q:=(aE by_ M.ars.length).1) (by omega))<|.yv (.loadM Z Fx.agg9 (mE.up hz139.1.up) (k:=0) Z Z)<|.yv (.indexSl Fx.sl52 Z Z (i:=(aE (aE by_ M.ars.length).2 (arL M (aE by_ M.ars.length).1)).1) Z (by omega) (q:=oE+(aE (aE by_ M.ars.length).2 (arL M (aE by_ M.ars.length).1)).1 * 1) Z)<|.dn<|.dn<|.dn<|.dn<|.dn<|.dn<|.dn<|.dn<|.dn<|.dn<|.dn<|.yv (.move Z)<|.yv (.move Z)<|.nl)) fun z139 hz139=>?_
    obtain ⟨x139,v139,H139⟩:=z139;obtain ⟨u139,⟨xs139,rz139,rs139,rl139⟩,q139⟩:=hz139;dsimp only at u139 rz139 rs139 q139 ⊢;obtain ⟨pn139,cn139,rfl⟩:=rs139.sl;refine .yw (.build Z (Fx.bld205_0_1_2_3 _ _ _ _ _ _))<|.fn (tl:=[_]) Z<|.sW cJ Z Z Fx.size205 (by simp [Value.oneCell',aB]) Z<|.nt<|.rt<|.bR<|.tR<|?_
    refine At.pt (hd:=[_,_,_]) (tl:=bs) (hd':=[_,_]) [2,0] rfl rfl ?_;exact Sx.ret1 (.inl rfl) rfl (.cell rfl Fx.agg205 (.head _) rfl) fun W t=>⟨(_,_,H139),by rw [show cN M k d bd by_ lf=_ from by rw [cN,if_neg (by omega),if_neg (by omega),if_neg (by omega),if_neg (by omega),if_neg (by omega),if_pos (by omega)],EL];exact ⟨(u124.trans u139),dG (kd:=6) (nm:=[UInt8.ofNat (97+(aE by_ M.ars.length).1)]) (hd:=(nmB 104 (aE (aE by_ M.ars.length).2 (arL M (aE by_ M.ars.length).1)).1)) (ex:=_) (th:=[]) (el:=[]) (by first | decide | simp [nmB]) (by first | decide | simp [nmB]) (rs139.rep rz139 (by rw [List.length_map];exact rl139)) (Rep.empty (by decide)) (Rep.empty (by decide)),q139,hlf⟩,rfl,by rw [show cN M k d bd by_ lf=_ from by rw [cN,if_neg (by omega),if_neg (by omega),if_neg (by omega),if_neg (by omega),if_neg (by omega),if_pos (by omega)],EL];exact t.drop⟩
   refine .c3 (X:=Value × Value × Hp) Fx.call161 Z (fun W s=>iP hM.1 (arN M (aE by_ M.ars.length).1 (aE (aE by_ M.ars.length).2 (arL M (aE by_ M.ars.length).1)).1) (by omega) (hz119.up u124.up)  (s.p2_2 [0,1] Z)) Z (fun z139 hz139=>(.yv (.loadM Z Fx.agg9 (mE.up hz139.1.up) (k:=0) Z Z)<|.yv (.indexSl Fx.sl52 Z Z (i:=(aE (aE by_ M.ars.length).2 (arL M (aE by_ M.ars.length).1)).1) Z (by omega) (q:=oE+(aE (aE by_ M.ars.length).2 (arL M (aE by_ M.ars.length).1)).1 * 1) Z)<|.dn<|.dn<|.dn<|.dn<|.dn<|.dn<|.dn<|.dn<|.dn<|.dn<|.dn<|.yv (.move Z)<|.yv (.move Z)<|.nl)) fun z139 hz139=>?_;obtain ⟨x139,v139,H139⟩:=z139;obtain ⟨u139,⟨xs139,rz139,rs139,rl139⟩,q139⟩:=hz139;dsimp only at u139 rz139 rs139 q139 ⊢;obtain ⟨pn139,cn139,rfl⟩:=rs139.sl;refine .h1<|.bl Z (Fx.bsl52_3 _ _ _) Z fun b120=>.yw (.indexSl Fx.sl52 Z Z (i:=(aE by_ M.ars.length).1) Z (by omega) (q:=(aE by_ M.ars.length).1) (by omega))<|.yw (.load (v:=aB [UInt8.ofNat (97+(aE by_ M.ars.length).1)]) Z Fx.agg9 (.head _) (oB (by omega)))<|.yw (.build Z (Fx.bld205_0_1_2_3 _ _ _ _ _ _))<|.fn (tl:=[_]) Z<|.sW cJ Z Z Fx.size205 (by simp [Value.oneCell',aB]) Z<|.nt<|.rt<|.bR<|.tR<|?_
   refine At.pt (hd:=[_,_,_]) (tl:=bs) (hd':=[_,_]) [2,1] rfl rfl ?_;exact Sx.ret1 (.inl rfl) rfl (.cell rfl Fx.agg205 (.head _) rfl) fun W t=>⟨(_,_,H139),by rw [show cN M k d bd by_ lf=_ from by rw [cN,if_neg (by omega),if_neg (by omega),if_neg (by omega),if_neg (by omega),if_neg (by omega),if_pos (by omega)],EL];exact ⟨(u124.trans u139),dG (kd:=6) (nm:=[UInt8.ofNat (97+(aE by_ M.ars.length).1)]) (hd:=(nmB 104 (aE (aE by_ M.ars.length).2 (arL M (aE by_ M.ars.length).1)).1)) (ex:=_) (th:=[]) (el:=[]) (by first | decide | simp [nmB]) (by first | decide | simp [nmB]) (rs139.rep rz139 (by rw [List.length_map];exact rl139)) (Rep.empty (by decide)) (Rep.empty (by decide)),q139,hlf⟩,rfl,by rw [show cN M k d bd by_ lf=_ from by rw [cN,if_neg (by omega),if_neg (by omega),if_neg (by omega),if_neg (by omega),if_neg (by omega),if_pos (by omega)],EL];exact t.drop⟩
  have q96:¬ (k=8∨k=9):=by rw [h96] at e96;exact of_decide_eq_false e96.symm
  refine .sr<|.mv Z<|.yw (.eql Z Z)<|.a Z Z<|.nt<|.cd Z (fun h141=>?_) (fun h141=>?_)
  ·try simp only [dt] at h141
   refine .sq<|?_
   obtain ⟨bA,oA,pR,cR,hpA,mA,hR⟩:=PH hAr hM.2.2.2.1;subst hpA;have hal:=hM.len hM.2.2.2.1;have hc:=hM.2.2.2.1;refine .fL 13 [(0,0),(1,0),(2,0),(3,0),(4,0),(5,0),(6,0),(7,0),(8,0),(9,0),(10,0),(11,0),(12,2)]<|.mv Z<|.mv Z<|.yw (.nilCheck Z)<|.yw (.fieldAddr Z Fx.field172_4)<|.yw (.load Z Fx.agg169 (.head _) Z)<|.mv Z<|.yw (.nilCheck Z)<|.yw (.fieldAddr Z Fx.field172_3)<|.yw (.load Z Fx.agg3 (.head _) Z)<|.yw (.indexSl Fx.sl169 Z Z (i:=M.own) Z (by omega) (q:=oA+M.own * 1) Z)<|.yw (.loadM Z Fx.agg129 mA (k:=0) Z Z)<|.yw (.lenSl Fx.sl129 Z)<|.cs (X:=Value) Fx.call143 Z (fun W s=>gD (arL M M.own) hal.1 hb  (s.p2_2 [0,1] Z)) Z fun z156 hz156=>?_
   have hh:=bX by_ hal.1;have hn2:=hM.num hM.2.2.2.1 hh;obtain ⟨bR,oR,hpR,mR⟩:=FN hR hh;subst hpR;refine .fn (tl:=[_]) Z<|.a Z Z<|.ns<|.mv Z<|.cs (X:=List Value × Value × Hp) Fx.call160 Z (fun W s=>jB M hM.1 2 (by decide) H w0 W _ b _ _ _ _ hz156  (s.p2_2 [0,1] Z)) Z fun z158 hz158=>?_
   obtain ⟨x158,v158,H158⟩:=z158;obtain ⟨u158,r158,q158⟩:=hz158;dsimp only at u158 r158 q158 ⊢;generalize hE158:(eW M 2 (aE by_ (arL M M.own)).2).1=e158 at r158;obtain ⟨op158,nm158,n158,a158⟩:=e158;obtain ⟨p158,c158,rfl,hs158,hl158⟩:=bZ r158;have mA2:=mA.up u158.up;have mR2:=mR.up u158.up;refine .al Fx.zero33 Z fun b13=>.sW .head Z Z Fx.size33 (by simp [Value.oneCell',aB]) Z<|.nt<|.sq<|.ft (p:=.light _ _ (.light _ _ (.light _ _ (.light _ _ (.light _ _ (.light _ _ (.light _ _ (.light _ _ (.light _ _ (.light _ _ (.light _ _ (.light _ _ (.light _ _ (.light _ _ (.light _ _ (.light _ _ (.alt _ _ _ (.light _ _ (.light _ _ (.alt _ _ _ (.alt _ _ _ (.alt _ _ _ (.light _ _ (.done)) (.no)) (.no)) (.alt _ _ _ (.alt _ _ _ (.alt _ _ _ (.light _ _ (.done)) (.no)) (.no)) (.no))))) (.alt _ _ _ (.alt _ _ _ (.light _ _ (.light _ _ (.alt _ _ _ (.alt _ _ _ (.light _ _ (.done)) (.no)) (.no)))) (.no)) (.no))))))))))))))))))) 23 (.light 1 (.light 4 (.light 6 (.light 7 (.light 8 (.light 9 (.light 10 (.light 11 (.light 12 (.light 13 (.light 14 (.light 15 (.light 16 (.light 17 (.light 18 (.light 19 (.alt 0 0 (.light 2 (.light 3 (.alt 5 0 (.alt 20 2 (.alt 21 2 (.light 22 (.done)) (.no)) (.no)) (.alt 20 2 (.alt 5 0 (.alt 21 2 (.light 22 (.done)) (.no)) (.no)) (.no))))) (.alt 5 0 (.alt 0 0 (.light 2 (.light 3 (.alt 20 2 (.alt 21 2 (.light 22 (.done)) (.no)) (.no)))) (.no)) (.no))))))))))))))))))) (by kernel_rfl) (by kernel_rfl) Z<|.mv Z<|.yw (.loadW Z Fx.agg33 (.head _) Z)<|.mv Z<|.mv Z<|.yw (.nilCheck Z)<|.yw (.fieldAddr Z Fx.field172_4)<|.yw (.load Z Fx.agg169 aW Z)<|.mv Z<|.yw (.nilCheck Z)<|.yw (.fieldAddr Z Fx.field172_3)<|.yw (.load Z Fx.agg3 aW Z)<|.yw (.indexSl Fx.sl169 Z Z (i:=M.own) Z (by omega) (q:=oA+M.own * 1) Z)<|.yw (.loadM Z Fx.agg129 mA2 (k:=0) Z Z)<|.mv Z<|.yw (.indexSl Fx.sl129 Z Z (i:=(aE by_ (arL M M.own)).1) Z (by omega) (q:=oR+(aE by_ (arL M M.own)).1 * 1) Z)<|.yw (.loadM Z Fx.agg3 mR2 (k:=0) Z Z)<|.h ?_ (.h ?_ .nn)
   ·
    refine .ct (X:=Value) Fx.call65 Z (fun W s=>fF H158 104 3 (by omega) W s.agr) Z fun v159 H159 hn159 u159=>?_;obtain ⟨pn159,cn159,e159,_⟩:=hn159.sl;simp only [List.cons.injEq,and_true,List.length_map,dN] at e159;subst e159;obtain ⟨bE,oE,hpE,mE⟩:=jC hn159 (k:=(aE by_ (arL M M.own)).1) (by omega);subst hpE;refine .yw (.indexSl Fx.sl52 Z Z (i:=(aE by_ (arL M M.own)).1) Z (by omega) (q:=oE+(aE by_ (arL M M.own)).1 * 1) Z)<|.yw (.loadM Z Fx.agg9 mE (k:=0) Z Z)<|.h ?_ (.h ?_ .nn)
    ·
     refine .blR Z (Fx.bsl31_1 _ _ _ _) Z (z:=4) Z (by decide) fun b164=>.h1<|.c3 (X:=Value × Value × Hp) Fx.call161 Z (fun W s=>iP hM.1 (arN M M.own (aE by_ (arL M M.own)).1) (by omega) (q158.up u159.up)  (s.p4_4 [2,0,1,3] Z)) Z (fun z179 hz179=>(.yv (.loadM Z Fx.agg9 (mE.up hz179.1.up) (k:=0) Z Z)<|.yv (.indexSl Fx.sl52 Z Z (i:=(aE by_ (arL M M.own)).1) Z (by omega) (q:=oE+(aE by_ (arL M M.own)).1 * 1) Z)<|.dn<|.dn<|.dn<|.dn<|.dn<|.dn<|.dn<|.dn<|.dn<|.dn<|.dn<|.dn<|.dn<|.dn<|.yv (.loadW Z Fx.agg33 cC Z)<|.yv (.move Z)<|.nl)) fun z179 hz179=>?_
     obtain ⟨x179,v179,H179⟩:=z179;obtain ⟨u179,⟨xs179,rz179,rs179,rl179⟩,q179⟩:=hz179;dsimp only at u179 rz179 rs179 q179 ⊢;obtain ⟨pn179,cn179,rfl⟩:=rs179.sl;refine .h1<|.apR (news:=xs179) Fx.row31 Z (fun _=>bQ) Z rs179 (by rw [rz179.len,List.length_map,rl179]) rz179.one (by simp [maxLen];omega) (by omega) Z (fun _=>(.yv (.loadM Z Fx.agg9 (mE.up u179.up) (k:=0) Z Z)<|.yv (.indexSl Fx.sl52 Z Z (i:=(aE by_ (arL M M.own)).1) Z (by omega) (q:=oE+(aE by_ (arL M M.own)).1 * 1) Z)<|.dn<|.dn<|.dn<|.dn<|.dn<|.dn<|.dn<|.dn<|.dn<|.dn<|.dn<|.dn<|.dn<|.dn<|.dn<|.yv (.move Z)<|.nl)) fun p180 c180=>.yw (.build Z (Fx.bld205_0_2_3 _ _ _ _ _))<|.fn (tl:=[_]) Z<|.sW fQ Z Z Fx.size205 (by simp [Value.oneCell',aB]) Z<|.nt<|.rt<|.bR<|.tR<|?_
     refine At.pt (hd:=[_,_,_,_]) (tl:=bs) (hd':=[_,_,_]) [1,3,0] rfl rfl ?_;refine Sx.freezeAt fun Hf uf mf=>?_;exact Sx.ret1 (.inl rfl) rfl (.cell rfl Fx.agg205 (.head _) rfl) fun W t=>⟨(_,_,Hf),by rw [show cN M k d bd by_ lf=_ from by rw [cN,if_neg (by omega),if_neg (by omega),if_neg (by omega),if_neg (by omega),if_neg (by omega),if_neg (by omega),if_pos (by omega)],FQ,hE158];exact ⟨(u158.trans (u159.trans u179)).trans uf,dG (kd:=7) (nm:=[]) (hd:=(nmB 104 (aE by_ (arL M M.own)).1)) (ex:=(.mk op158 nm158 n158 a158::(iX M (arN M M.own (aE by_ (arL M M.own)).1) _).1)) (th:=[]) (el:=[]) (by first | decide | simp [nmB]) (by first | decide | simp [nmB]) (mf.rep (z:=4) (aL.app (aL.single (((r158.up u159.up).up u179.up).up uf.up) rfl) (rz179.up uf.up)) (by simp;omega)) (Rep.empty (by decide)) (Rep.empty (by decide)),q179.up uf.up,hlf⟩,rfl,by rw [show cN M k d bd by_ lf=_ from by rw [cN,if_neg (by omega),if_neg (by omega),if_neg (by omega),if_neg (by omega),if_neg (by omega),if_neg (by omega),if_pos (by omega)],FQ,hE158];exact t.drop⟩
    refine .c3 (X:=Value × Value × Hp) Fx.call161 Z (fun W s=>iP hM.1 (arN M M.own (aE by_ (arL M M.own)).1) (by omega) (q158.up u159.up)  (s.p3_3 [1,0,2] Z)) Z (fun z179 hz179=>(.yv (.loadM Z Fx.agg9 (mE.up hz179.1.up) (k:=0) Z Z)<|.yv (.indexSl Fx.sl52 Z Z (i:=(aE by_ (arL M M.own)).1) Z (by omega) (q:=oE+(aE by_ (arL M M.own)).1 * 1) Z)<|.dn<|.dn<|.dn<|.dn<|.dn<|.dn<|.dn<|.dn<|.dn<|.dn<|.dn<|.dn<|.dn<|.dn<|.yv (.loadW Z Fx.agg33 aW Z)<|.yv (.move Z)<|.nl)) fun z179 hz179=>?_;obtain ⟨x179,v179,H179⟩:=z179;obtain ⟨u179,⟨xs179,rz179,rs179,rl179⟩,q179⟩:=hz179;dsimp only at u179 rz179 rs179 q179 ⊢;obtain ⟨pn179,cn179,rfl⟩:=rs179.sl;refine .h1<|.blR Z (Fx.bsl31_1 _ _ _ _) Z (z:=4) Z (by decide) fun b164=>.h1<|.apR (news:=xs179) Fx.row31 Z (fun _=>.head) Z rs179 (by rw [rz179.len,List.length_map,rl179]) rz179.one (by simp [maxLen];omega) (by omega) Z (fun _=>(.yv (.loadM Z Fx.agg9 (mE.up u179.up) (k:=0) Z Z)<|.yv (.indexSl Fx.sl52 Z Z (i:=(aE by_ (arL M M.own)).1) Z (by omega) (q:=oE+(aE by_ (arL M M.own)).1 * 1) Z)<|.dn<|.dn<|.dn<|.dn<|.dn<|.dn<|.dn<|.dn<|.dn<|.dn<|.dn<|.dn<|.dn<|.dn<|.dn<|.yv (.move Z)<|.nl)) fun p180 c180=>.yw (.build Z (Fx.bld205_0_2_3 _ _ _ _ _))<|.fn (tl:=[_]) Z<|.sW fQ Z Z Fx.size205 (by simp [Value.oneCell',aB]) Z<|.nt<|.rt<|.bR<|.tR<|?_
    refine At.pt (hd:=[_,_,_,_]) (tl:=bs) (hd':=[_,_,_]) [0,3,1] rfl rfl ?_;refine Sx.freezeAt fun Hf uf mf=>?_;exact Sx.ret1 (.inl rfl) rfl (.cell rfl Fx.agg205 (.head _) rfl) fun W t=>⟨(_,_,Hf),by rw [show cN M k d bd by_ lf=_ from by rw [cN,if_neg (by omega),if_neg (by omega),if_neg (by omega),if_neg (by omega),if_neg (by omega),if_neg (by omega),if_pos (by omega)],FQ,hE158];exact ⟨(u158.trans (u159.trans u179)).trans uf,dG (kd:=7) (nm:=[]) (hd:=(nmB 104 (aE by_ (arL M M.own)).1)) (ex:=(.mk op158 nm158 n158 a158::(iX M (arN M M.own (aE by_ (arL M M.own)).1) _).1)) (th:=[]) (el:=[]) (by first | decide | simp [nmB]) (by first | decide | simp [nmB]) (mf.rep (z:=4) (aL.app (aL.single (((r158.up u159.up).up u179.up).up uf.up) rfl) (rz179.up uf.up)) (by simp;omega)) (Rep.empty (by decide)) (Rep.empty (by decide)),q179.up uf.up,hlf⟩,rfl,by rw [show cN M k d bd by_ lf=_ from by rw [cN,if_neg (by omega),if_neg (by omega),if_neg (by omega),if_neg (by omega),if_neg (by omega),if_neg (by omega),if_pos (by omega)],FQ,hE158];exact t.drop⟩
   refine .blR Z (Fx.bsl31_1 _ _ _ _) Z (z:=4) Z (by decide) fun b164=>.h1<|.ct (X:=Value) Fx.call65 Z (fun W s=>fF H158 104 3 (by omega) W s.agr) Z fun v159 H159 hn159 u159=>?_
   obtain ⟨pn159,cn159,e159,_⟩:=hn159.sl;simp only [List.cons.injEq,and_true,List.length_map,dN] at e159;subst e159;obtain ⟨bE,oE,hpE,mE⟩:=jC hn159 (k:=(aE by_ (arL M M.own)).1) (by omega);subst hpE;refine .yw (.indexSl Fx.sl52 Z Z (i:=(aE by_ (arL M M.own)).1) Z (by omega) (q:=oE+(aE by_ (arL M M.own)).1 * 1) Z)<|.yw (.loadM Z Fx.agg9 mE (k:=0) Z Z)<|.h1<|.c3 (X:=Value × Value × Hp) Fx.call161 Z (fun W s=>iP hM.1 (arN M M.own (aE by_ (arL M M.own)).1) (by omega) (q158.up u159.up)  (s.p4_4 [2,0,1,3] Z)) Z (fun z179 hz179=>(.yv (.loadM Z Fx.agg9 (mE.up hz179.1.up) (k:=0) Z Z)<|.yv (.indexSl Fx.sl52 Z Z (i:=(aE by_ (arL M M.own)).1) Z (by omega) (q:=oE+(aE by_ (arL M M.own)).1 * 1) Z)<|.dn<|.dn<|.dn<|.dn<|.dn<|.dn<|.dn<|.dn<|.dn<|.dn<|.dn<|.dn<|.dn<|.dn<|.yv (.loadW Z Fx.agg33 cC Z)<|.yv (.move Z)<|.nl)) fun z179 hz179=>?_
   obtain ⟨x179,v179,H179⟩:=z179;obtain ⟨u179,⟨xs179,rz179,rs179,rl179⟩,q179⟩:=hz179;dsimp only at u179 rz179 rs179 q179 ⊢;obtain ⟨pn179,cn179,rfl⟩:=rs179.sl;refine .h1<|.apR (news:=xs179) Fx.row31 Z (fun _=>bQ) Z rs179 (by rw [rz179.len,List.length_map,rl179]) rz179.one (by simp [maxLen];omega) (by omega) Z (fun _=>(.yv (.loadM Z Fx.agg9 (mE.up u179.up) (k:=0) Z Z)<|.yv (.indexSl Fx.sl52 Z Z (i:=(aE by_ (arL M M.own)).1) Z (by omega) (q:=oE+(aE by_ (arL M M.own)).1 * 1) Z)<|.dn<|.dn<|.dn<|.dn<|.dn<|.dn<|.dn<|.dn<|.dn<|.dn<|.dn<|.dn<|.dn<|.dn<|.dn<|.yv (.move Z)<|.nl)) fun p180 c180=>.yw (.build Z (Fx.bld205_0_2_3 _ _ _ _ _))<|.fn (tl:=[_]) Z<|.sW fQ Z Z Fx.size205 (by simp [Value.oneCell',aB]) Z<|.nt<|.rt<|.bR<|.tR<|?_
   refine At.pt (hd:=[_,_,_,_]) (tl:=bs) (hd':=[_,_,_]) [1,3,0] rfl rfl ?_;refine Sx.freezeAt fun Hf uf mf=>?_;exact Sx.ret1 (.inl rfl) rfl (.cell rfl Fx.agg205 (.head _) rfl) fun W t=>⟨(_,_,Hf),by rw [show cN M k d bd by_ lf=_ from by rw [cN,if_neg (by omega),if_neg (by omega),if_neg (by omega),if_neg (by omega),if_neg (by omega),if_neg (by omega),if_pos (by omega)],FQ,hE158];exact ⟨(u158.trans (u159.trans u179)).trans uf,dG (kd:=7) (nm:=[]) (hd:=(nmB 104 (aE by_ (arL M M.own)).1)) (ex:=(.mk op158 nm158 n158 a158::(iX M (arN M M.own (aE by_ (arL M M.own)).1) _).1)) (th:=[]) (el:=[]) (by first | decide | simp [nmB]) (by first | decide | simp [nmB]) (mf.rep (z:=4) (aL.app (aL.single (((r158.up u159.up).up u179.up).up uf.up) rfl) (rz179.up uf.up)) (by simp;omega)) (Rep.empty (by decide)) (Rep.empty (by decide)),q179.up uf.up,hlf⟩,rfl,by rw [show cN M k d bd by_ lf=_ from by rw [cN,if_neg (by omega),if_neg (by omega),if_neg (by omega),if_neg (by omega),if_neg (by omega),if_neg (by omega),if_pos (by omega)],FQ,hE158];exact t.drop⟩
  try simp only [df] at h141
  refine .cu (X:=Bool) [(0,_),(1,_),(2,_),(6,_)] ⟨rfl,rfl,rfl,rfl,trivial⟩ (fun z=>[(182,.bool z)]) (fun z=>H) (fun z=>(.box b (mkC M (.slice pA M.ars.length cA) bv (lf:Nat)) 172::.box b6 [.int .i64 0,.string ⟨#[]⟩,.string ⟨#[]⟩,.slice none 0 0,.slice none 0 0,.slice none 0 0] 205::bs)) (fun z=>z=decide (k=11∧d<3)) ?_ fun z hC=>?_
  ·
   refine .rg<|.mv Z<|.yw (.eql Z Z)<|.mv Z<|.b2 (fun h185=>?_) (fun h185=>?_)
   ·try simp only [dt] at h185
    exact .gd Z Z<|.yw (.move Z)<|.gd Z Z<|.yw (.lss Z Z)<|.yw (.pickT Z Z)<|.a Z Z<|.nt<|.me _ ⟨rfl,trivial⟩ ⟨rfl,rfl,rfl,rfl,trivial⟩ (fun _ s=>s) (by rw [Bool.eq_iff_iff,decide_eq_true_eq];first | (rw [decide_eq_true_eq];omega) | exact ⟨fun _=>by omega,fun _=>rfl⟩ | exact ⟨fun h=>(by cases h),fun h=>by omega⟩)
   try simp only [df] at h185
   exact .gG<|.gG<|.yw (.pickF Z Z)<|.a Z Z<|.nt<|.me _ ⟨rfl,trivial⟩ ⟨rfl,rfl,rfl,rfl,trivial⟩ (fun _ s=>s) (by rw [Bool.eq_iff_iff,decide_eq_true_eq];first | (rw [decide_eq_true_eq];omega) | exact ⟨fun _=>by omega,fun _=>rfl⟩ | exact ⟨fun h=>(by cases h),fun h=>by omega⟩)
  have e182:=hC;refine .cd Z (fun h182=>?_) (fun h182=>?_)
  ·have q182:k=11∧d<3:=by rw [h182] at e182;exact of_decide_eq_true e182.symm
   refine .sq<|.sr<|.mv Z<|.cs (X:=Value) Fx.call143 Z (fun W s=>gD 2 (by decide) hb  (s.p2_2 [0,1] Z)) Z fun z190 hz190=>.yw (.eql Z Z)<|.nt<|.cd Z (fun h191=>?_) (fun h191=>?_)
   ·try simp only [dt] at h191
    refine .sr<|.mv Z<|.cs (X:=Value × Value × Hp) Fx.call161 Z (fun W s=>iP hM.1 2 (by decide) hz190  (s.p2_2 [0,1] Z)) Z fun z193 hz193=>?_
    obtain ⟨x193,v193,H193⟩:=z193;obtain ⟨u193,⟨xs193,rz193,rs193,rl193⟩,q193⟩:=hz193;dsimp only at u193 rz193 rs193 q193 ⊢;obtain ⟨pn193,cn193,rfl⟩:=rs193.sl;refine .a Z Z<|.ns<|.mv Z<|.mv Z<|.mv Z<|.yw (.add Z Z (c:=((d+1:Nat):Int)) ((w6 (by omega)).trans (by omega)))<|.cs (X:=Value × Value × Hp) Fx.call109 Z (fun W s=>hbd (by omega) H193 w0 W _ b _ _ lf _ hlf (hAr.up u193.up) q193  (s.p2_2 [0,1] Z)) Z fun z198 hz198=>?_
    obtain ⟨x198,v198,H198⟩:=z198;obtain ⟨u198,r198,q198,l198⟩:=hz198;dsimp only at u198 r198 q198 ⊢;obtain ⟨pb198,cb198,eb198,_⟩:=r198.sl;simp only [List.cons.injEq,and_true,List.length_map] at eb198;subst eb198;refine .yw (.build Z (Fx.bld205_0_3_5 _ _ _ _ _ _ _))<|.sW bQ Z Z Fx.size205 (by simp [Value.oneCell',aB]) Z<|.nt<|.rt<|.tR<|.bR<|.tR<|?_
    refine At.pt (hd:=[_,_]) (tl:=bs) (hd':=[_,_]) [1,0] rfl rfl ?_;exact Sx.ret1 (.inl rfl) rfl (.cell rfl Fx.agg205 (.head _) rfl) fun W t=>⟨(_,_,H198),by rw [show cN M k d bd by_ lf=_ from by rw [cN,if_neg (by omega),if_neg (by omega),if_neg (by omega),if_neg (by omega),if_neg (by omega),if_neg (by omega),if_neg (by omega),if_pos (by omega)],if_pos (by omega)];exact ⟨(u193.trans u198),dG (kd:=8) (nm:=[]) (hd:=[]) (ex:=_) (th:=[]) (el:=_) (by first | decide | simp [nmB]) (by first | decide | simp [nmB]) ((rs193.up u198.up).rep (rz193.up u198.up) (by rw [List.length_map];exact rl193)) (Rep.empty (by decide)) r198,q198,l198⟩,rfl,by rw [show cN M k d bd by_ lf=_ from by rw [cN,if_neg (by omega),if_neg (by omega),if_neg (by omega),if_neg (by omega),if_neg (by omega),if_neg (by omega),if_neg (by omega),if_pos (by omega)],if_pos (by omega)];exact t.drop⟩
   try simp only [df] at h191
   refine .sk<|.tN<|.sr<|.mv Z<|.cs (X:=Value × Hp) Fx.call162 Z (fun W s=>qD hM.1 hz190  (s.p2_2 [0,1] Z)) Z fun z201 hz201=>.a Z Z<|.ns<|.mv Z<|.cs (X:=List Value × Value × Hp) Fx.call160 Z (fun W s=>jB M hM.1 3 (by decide) z201.2 w0 W _ b _ _ _ _ hz201.2  (s.p2_2 [0,1] Z)) Z fun z203 hz203=>?_
   obtain ⟨x203,v203,H203⟩:=z203;obtain ⟨u203,r203,q203⟩:=hz203;dsimp only at u203 r203 q203 ⊢;generalize hE203:(eW M 3 (aE (aE by_ 2).2 M.ints).2).1=e203 at r203;obtain ⟨op203,nm203,n203,a203⟩:=e203;obtain ⟨p203,c203,rfl,hs203,hl203⟩:=bZ r203;refine .al Fx.zero33 Z fun b16=>.sW .head Z Z Fx.size33 (by simp [Value.oneCell',aB]) Z<|.nt<|.sq<|.ft (p:=.light _ _ (.light _ _ (.light _ _ (.light _ _ (.light _ _ (.alt _ _ _ (.alt _ _ _ (.light _ _ (.done)) (.no)) (.alt _ _ _ (.alt _ _ _ (.light _ _ (.done)) (.no)) (.no)))))))) 8 (.light 0 (.light 1 (.light 3 (.light 4 (.light 5 (.alt 2 0 (.alt 6 2 (.light 7 (.done)) (.no)) (.alt 6 2 (.alt 2 0 (.light 7 (.done)) (.no)) (.no)))))))) (by kernel_rfl) (by kernel_rfl) Z<|.mv Z<|.yw (.loadW Z Fx.agg33 (.head _) Z)<|.mv Z<|.mv Z<|.yw (.add Z Z (c:=((d+1:Nat):Int)) ((w6 (by omega)).trans (by omega)))<|.h ?_ (.h ?_ .nn)
   ·
    refine .bl Z (Fx.bsl31_1 _ _ _ _) Z fun b206=>.h1<|.c3 (X:=Value × Value × Hp) Fx.call109 Z (fun W s=>hbd (by omega) H203 w0 W _ b _ _ lf _ hlf (hAr.up (hz201.1.trans u203).up) q203  (s.p4_4 [2,0,1,3] Z)) Z (fun z210 hz210=>(.dn<|.dn<|.dn<|.yv (.loadW Z Fx.agg33 cC Z)<|.yv (.move Z)<|.nl)) fun z210 hz210=>?_
    obtain ⟨x210,v210,H210⟩:=z210;obtain ⟨u210,r210,q210,l210⟩:=hz210;dsimp only at u210 r210 q210 ⊢;obtain ⟨pb210,cb210,eb210,_⟩:=r210.sl;simp only [List.cons.injEq,and_true,List.length_map] at eb210;subst eb210;refine .yw (.build Z (Fx.bld205_0_1_3_5 _ _ _ _ _ _ _ _))<|.fn (tl:=[_]) Z<|.sW fQ Z Z Fx.size205 (by simp [Value.oneCell',aB]) Z<|.nt<|.rt<|.bR<|.tR<|?_
    refine At.pt (hd:=[_,_,_,_]) (tl:=bs) (hd':=[_,_,_]) [1,3,0] rfl rfl ?_;refine Sx.freezeBox fun Hf uf mf=>?_;exact Sx.ret1 (.inl rfl) rfl (.cell rfl Fx.agg205 (.head _) rfl) fun W t=>⟨(_,_,Hf),by rw [show cN M k d bd by_ lf=_ from by rw [cN,if_neg (by omega),if_neg (by omega),if_neg (by omega),if_neg (by omega),if_neg (by omega),if_neg (by omega),if_neg (by omega),if_pos (by omega)],if_neg (by omega),OG,hE203];exact ⟨(hz201.1.trans (u203.trans u210)).trans uf,dG (kd:=9) (nm:=(nmB 120 _)) (hd:=[]) (ex:=[.mk op203 nm203 n203 a203]) (th:=[]) (el:=_) (by first | decide | simp [nmB]) (by first | decide | simp [nmB]) (Rep.mk (n:=1) (c:=1) mf (.single ((r203.up (u210).up).up uf.up) rfl) rfl (Nat.le_refl _) (by decide)) (Rep.empty (by decide)) (r210.up uf.up),q210.up uf.up,l210⟩,rfl,by rw [show cN M k d bd by_ lf=_ from by rw [cN,if_neg (by omega),if_neg (by omega),if_neg (by omega),if_neg (by omega),if_neg (by omega),if_neg (by omega),if_neg (by omega),if_pos (by omega)],if_neg (by omega),OG,hE203];exact t.drop⟩
   refine .c3 (X:=Value × Value × Hp) Fx.call109 Z (fun W s=>hbd (by omega) H203 w0 W _ b _ _ lf _ hlf (hAr.up (hz201.1.trans u203).up) q203  (s.p3_3 [1,0,2] Z)) Z (fun z210 hz210=>(.dn<|.dn<|.dn<|.yv (.loadW Z Fx.agg33 aW Z)<|.yv (.move Z)<|.nl)) fun z210 hz210=>?_;obtain ⟨x210,v210,H210⟩:=z210;obtain ⟨u210,r210,q210,l210⟩:=hz210;dsimp only at u210 r210 q210 ⊢;obtain ⟨pb210,cb210,eb210,_⟩:=r210.sl;simp only [List.cons.injEq,and_true,List.length_map] at eb210;subst eb210;refine .h1<|.bl Z (Fx.bsl31_1 _ _ _ _) Z fun b206=>.yw (.build Z (Fx.bld205_0_1_3_5 _ _ _ _ _ _ _ _))<|.fn (tl:=[_]) Z<|.sW fQ Z Z Fx.size205 (by simp [Value.oneCell',aB]) Z<|.nt<|.rt<|.bR<|.tR<|?_
   refine At.pt (hd:=[_,_,_,_]) (tl:=bs) (hd':=[_,_,_]) [0,3,1] rfl rfl ?_;refine Sx.freezeBox fun Hf uf mf=>?_;exact Sx.ret1 (.inl rfl) rfl (.cell rfl Fx.agg205 (.head _) rfl) fun W t=>⟨(_,_,Hf),by rw [show cN M k d bd by_ lf=_ from by rw [cN,if_neg (by omega),if_neg (by omega),if_neg (by omega),if_neg (by omega),if_neg (by omega),if_neg (by omega),if_neg (by omega),if_pos (by omega)],if_neg (by omega),OG,hE203];exact ⟨(hz201.1.trans (u203.trans u210)).trans uf,dG (kd:=9) (nm:=(nmB 120 _)) (hd:=[]) (ex:=[.mk op203 nm203 n203 a203]) (th:=[]) (el:=_) (by first | decide | simp [nmB]) (by first | decide | simp [nmB]) (Rep.mk (n:=1) (c:=1) mf (.single ((r203.up (u210).up).up uf.up) rfl) rfl (Nat.le_refl _) (by decide)) (Rep.empty (by decide)) (r210.up uf.up),q210.up uf.up,l210⟩,rfl,by rw [show cN M k d bd by_ lf=_ from by rw [cN,if_neg (by omega),if_neg (by omega),if_neg (by omega),if_neg (by omega),if_neg (by omega),if_neg (by omega),if_neg (by omega),if_pos (by omega)],if_neg (by omega),OG,hE203];exact t.drop⟩
  have q182:¬ (k=11∧d<3):=by rw [h182] at e182;exact of_decide_eq_false e182.symm
  refine .sr<|.mv Z<|.yw (.eql Z Z)<|.mv Z<|.b2 (fun h215=>?_) (fun h215=>?_)
  ·try simp only [dt] at h215
   refine .gd Z Z<|.yw (.move Z)<|.gd Z Z<|.cs (X:=Value) Fx.call143 Z (fun W s=>gD 3 (by decide) hb  (s.p2_2 [0,1] Z)) Z fun z217 hz217=>.gd Z Z<|.yw (.eql Z Z)<|.yw (.pickT Z Z)<|.a Z Z<|.nt<|.cd Z (fun h212=>?_) (fun h212=>?_)
   ·try simp only [dt] at h212
    refine .sr<|.yw (.build Z (Fx.bld205_0 _))<|.sW bQ Z Z Fx.size205 (by simp [Value.oneCell',aB]) Z<|.nt<|.rt<|.bR<|.tR<|?_
    refine At.pt (hd:=[_,_]) (tl:=bs) (hd':=[_,_]) [1,0] rfl rfl ?_;exact Sx.ret1 (.inl rfl) rfl (.cell rfl Fx.agg205 (.head _) rfl) fun W t=>⟨(_,_,H),by rw [show cN M k d bd by_ lf=_ from by rw [cN,if_neg (by omega),if_neg (by omega),if_neg (by omega),if_neg (by omega),if_neg (by omega),if_neg (by omega),if_neg (by omega),if_neg (by omega),if_pos (by omega)]];exact ⟨.refl,dG (kd:=10) (nm:=[]) (hd:=[]) (ex:=[]) (th:=[]) (el:=[]) (by first | decide | simp [nmB]) (by first | decide | simp [nmB]) (Rep.empty (by decide)) (Rep.empty (by decide)) (Rep.empty (by decide)),hz217,hlf⟩,rfl,by rw [show cN M k d bd by_ lf=_ from by rw [cN,if_neg (by omega),if_neg (by omega),if_neg (by omega),if_neg (by omega),if_neg (by omega),if_neg (by omega),if_neg (by omega),if_neg (by omega),if_pos (by omega)]];exact t.drop⟩
   try simp only [df] at h212
   exact .sk<|.bN<|.tN<|.me _ trivial ⟨rfl,rfl,trivial⟩ (fun _ s=>s) (by first | exact ⟨by rw [if_neg (by omega)];exact hb,by omega⟩ | exact ⟨by rw [if_pos (by omega)];exact hz217,by omega⟩)
  try simp only [df] at h215
  exact .gG<|.gG<|.gG<|.yw (.pickF Z Z)<|.a Z Z<|.nt<|.cF Z<|.sk<|.bN<|.tN<|.me _ trivial ⟨rfl,rfl,trivial⟩ (fun _ s=>s) (by first | exact ⟨by rw [if_neg (by omega)];exact hb,by omega⟩ | exact ⟨by rw [if_pos (by omega)];exact hz217,by omega⟩)
 obtain ⟨hbz,hc1,hc2,hc3,hc4,hc5,hc6,hc7,hc8,hc9⟩:=hC;generalize hb1:(if k=12 then (aE by_ 3).2 else by_)=b1 at hbz;refine .sr<|.mv Z<|.cs (X:=Value × Hp) Fx.call162 Z (fun W s=>qD hM.1 hbz  (s.p2_2 [0,1] Z)) Z fun z222 hz222=>.a Z Z<|.ns<|.mv Z<|.mv Z<|.cs (X:=List Value × Value × Hp) Fx.call160 Z (fun W s=>jB M hM.1 3 (by decide) z222.2 w0 W _ b _ _ _ _ hz222.2  (s.p2_2 [0,1] Z)) Z fun z225 hz225=>?_
 obtain ⟨x225,v225,H225⟩:=z225;obtain ⟨u225,r225,q225⟩:=hz225;dsimp only at u225 r225 q225 ⊢;generalize hE225:(eW M 3 (aE b1 M.ints).2).1=e225 at r225;obtain ⟨op225,nm225,n225,a225⟩:=e225;obtain ⟨p225,c225,rfl,hs225,hl225⟩:=bZ r225;refine .bl Z (Fx.bsl31_1 _ _ _ _) Z fun b226=>.yw (.build Z (Fx.bld205_0_1_3 _ _ _ _ _))<|.sW cJ Z Z Fx.size205 (by simp [Value.oneCell',aB]) Z<|.nt<|.rt<|?_
 refine At.pt (hd:=[_,_,_]) (tl:=bs) (hd':=[_,_,_]) [0,2,1] rfl rfl ?_;refine Sx.freezeBox fun Hf uf mf=>?_;exact Sx.ret1 (.inl rfl) rfl (.cell rfl Fx.agg205 (.head _) rfl) fun W t=>⟨(_,_,Hf),by rw [show cN M k d bd by_ lf=_ from by rw [cN,if_neg (by omega),if_neg (by omega),if_neg (by omega),if_neg (by omega),if_neg (by omega),if_neg (by omega),if_neg (by omega),if_neg (by omega),if_neg (by omega)],hb1,VN,hE225];exact ⟨(hz222.1.trans u225).trans uf,dG (kd:=1) (nm:=(nmB 120 _)) (hd:=[]) (ex:=[.mk op225 nm225 n225 a225]) (th:=[]) (el:=[]) (by first | decide | simp [nmB]) (by first | decide | simp [nmB]) (Rep.mk (n:=1) (c:=1) mf (.single ((r225).up uf.up) rfl) rfl (Nat.le_refl _) (by decide)) (Rep.empty (by decide)) (Rep.empty (by decide)),q225.up uf.up,hlf⟩,rfl,by rw [show cN M k d bd by_ lf=_ from by rw [cN,if_neg (by omega),if_neg (by omega),if_neg (by omega),if_neg (by omega),if_neg (by omega),if_neg (by omega),if_neg (by omega),if_neg (by omega),if_neg (by omega)],hb1,VN,hE225];exact t.drop⟩
def XP (st:Nat→Bs→Nat→Sm × (Bs × Nat)) (M:Mk) (d:Nat):Prop:=∀ (H:Hp) (w0 W:World) (bs:List Res) (b:Nat) (arV bv:Value) (lf:Nat) (by_:Bs) (k:Nat),lf≤12→Rep H (.seq 1 (M.ars.map dAr)) [arV]→Rep H (.seq 1 ((by_).map dU8)) [bv]→St H w0 (.box b (mkC M arV bv (lf:Nat)) 172::bs) W →
 Calls Tryz.prog 144 #[.pointer (some ⟨b,0,none⟩),.int .i64 (k:Nat),.int .i64 (d:Nat)] W fun e W'=>∃ z:List Value × Value × Hp,(HUp w0 H z.2.2∧Rep z.2.2 (dSm .i64 (st k by_ lf).1) z.1∧Rep z.2.2 (.seq 1 (((st k by_ lf).2.1).map dU8)) [z.2.1]∧(st k by_ lf).2.2≤12)∧e=.returned (.agg z.1.toArray)∧St z.2.2 w0 (.box b (mkC M arV z.2.1 ((st k by_ lf).2.2:Nat)) 172::bs) W'
theorem yK (M:Mk) (d:Nat) (hd:d≤3) (st:Nat→Bs→Nat→Sm × (Bs × Nat)) (hst_:XP st M d) (hmono:∀ k b lf,(st k b lf).2.2≤lf):PP (jZ st 13) M d:=by
 intro H w0 W bs b arV bv lf by_ hlf hAr hb s;obtain ⟨pA,cA,eA,_⟩:=hAr.sl;simp only [List.cons.injEq,and_true,List.length_map] at eA;subst eA;refine Sx.enterS Tryz.func109 rfl Tryz.ntmps109 rfl s ?_;refine .sr<|.a Z Z<|.ns<|.a Z Z<|?_
 refine Sx.row0 205 6 ?_;refine .nt<|.sq<|.bk<|.lp (X:=Nat × Nat × Hp × Value × List Value × Value × Nat) [(0,_),(1,_)] ⟨rfl,rfl,trivial⟩ (bs) (fun z=>[(5,z.2.2.2.1)]) (fun z=>z.2.2.1) (fun z=>[.row 205 6 z.2.2.2.1 z.1 z.2.2.2.2.1,.box b (mkC M (.slice pA M.ars.length cA) z.2.2.2.2.2.1 (z.2.2.2.2.2.2:Nat)) 172]) (fun z=>z.2.2.2.2.2.2<z.2.1∧z.2.2.2.2.2.2≤12∧z.1+z.2.2.2.2.2.2≤12∧HUp w0 H z.2.2.1∧∃ (es:List Sm) (b1:Bs),es.length=z.1∧aL z.2.2.1 6 (es.map (dSm .i64)) z.2.2.2.2.1∧Rep z.2.2.1 (.seq 1 ((b1).map dU8)) [z.2.2.2.2.2.1]∧jZ st 13 (by_,lf)=(es++(jZ st z.2.1 (b1,z.2.2.2.2.2.2)).1,(jZ st z.2.1 (b1,z.2.2.2.2.2.2)).2)) (fun z=>z.2.1) (0,13,H,.slice none 0 0,[],bv,lf) (fun _ s=>s) ⟨rfl,trivial⟩ ⟨by dsimp only;omega,hlf,by dsimp only;omega,.refl,[],by_,rfl,aL.nil,hb,rfl⟩ fun z hC=>?_
 obtain ⟨k,f,H1,r,xs,bv,lf1⟩:=z;dsimp only at hC ⊢;obtain ⟨hf,hl1,hkl,u1,es,b1,hlen,hz,hb1,heq⟩:=hC;obtain ⟨f,rfl⟩:∃ g,f=g+1:=⟨f - 1,by omega⟩;obtain ⟨pB,cB,eB,hcB⟩:=hb1.sl;simp only [List.cons.injEq,and_true,List.length_map] at eB hcB;subst eB;have hcapB:=hb1.cap;refine .sq<|.sr<|.mv Z<|.yw (.nilCheck Z)<|.yw (.fieldAddr Z Fx.field172_6)<|.yw (.load Z Fx.agg40 aW Z)<|.yw (.lenSl Fx.sl40 Z)<|.yw (.gtr Z Z)<|.mv Z<|.b2 (fun h13=>?_) (fun h13=>?_)
 ·try simp only [dt] at h13
  have hb0:b1≠[]:=by intro e;rw [e] at h13;simp at h13
  refine .gd Z Z<|.yw (.move Z)<|.gd Z Z<|.yw (.nilCheck Z)<|.gd Z Z<|.yw (.fieldAddr Z Fx.field172_7)<|.gd Z Z<|.yw (.load Z Fx.agg3 aW Z)<|.gd Z Z<|.yw (.gtr Z Z)<|.yw (.pickT Z Z)<|.nt<|.cd Z (fun h19=>?_) (fun h19=>?_)
  ·try simp only [dt] at h19
   have hnn:¬ (b1=[]∨lf1=0):=fun h=>h.elim hb0 (fun e=>by omega);refine .sk<|.tN<|.bk<|.sr<|.mv Z<|.cs (X:=Value) Fx.call143 Z (fun W s=>gD 14 (by decide) hb1  (s.p2_2 [1,0] Z)) Z fun z21 hz21=>.a Z Z<|.nt<|.sq<|.sr<|.mv Z<|.yw (.eql Z Z)<|.nt<|.cd Z (fun h23=>?_) (fun h23=>?_)
   ·try simp only [dt] at h23
    have h13:(aE b1 14).1=13:=by omega
    have heqF:jZ st 13 (by_,lf)=(es,((aE b1 14).2,lf1)):=by rw [heq,jZ,if_neg hnn,if_pos h13,List.append_nil]
    refine .sr<|.mv Z<|.a Z Z<|.nt<|.rt<|.tR<|.bR<|.tR<|.bR<|.tR<|?_
    refine At.pt (hd:=[_,_]) (tl:=bs) (hd':=[_,_]) [1,0] rfl rfl ?_;refine Sx.freezeSeq (ds:=es.map (dSm .i64)) (by simp;omega) hz fun H3 p3 c3 u3 hr3 hs3=>?_;exact Sx.ret1 (.inl rfl) rfl (.tmp rfl) fun W t=>⟨(r,_,H3),by rw [heqF];exact ⟨u1.trans u3,hs3,hz21.up u3.up,hl1⟩,rfl,by rw [heqF];exact t⟩
   try simp only [df] at h23
   have h13:¬ (aE b1 14).1=13:=by omega
   refine .sk<|.tN<|.sr<|.mv Z<|.yw (.nilCheck Z)<|.yw (.fieldAddr Z Fx.field172_7)<|.yw (.load Z Fx.agg3 (.head _) Z)<|.yw (.sub Z Z (c:=((lf1 - 1:Nat):Int)) ((w6 (by omega)).trans (by omega)))<|.yw (.nilCheck Z)<|.yw (.fieldAddr Z Fx.field172_7)<|.st (l':=mkC M (.slice pA M.ars.length cA) z21 (lf1 - 1:Nat)) .head Z Z Fx.size3 Z (nb Z) Z<|.nt<|.rg<|.mv Z<|.mv Z<|.mv Z<|.mv Z<|.cs (X:=List Value × Value × Hp) Fx.call144 Z (fun W s=>hst_ H1 w0 W _ b _ _ (lf1 - 1) (aE b1 14).2 (aE b1 14).1 (by omega) (hAr.up u1.up) hz21  (s.p2_2 [0,1] Z)) Z fun z36 hz36=>?_
   have hst:=hmono (aE b1 14).1 (aE b1 14).2 (lf1 - 1);obtain ⟨x36,v36,H36⟩:=z36;obtain ⟨u36,r36,q36,l36⟩:=hz36;dsimp only at u36 r36 q36 ⊢;generalize hE36:(st (aE b1 14).1 (aE b1 14).2 (lf1 - 1))=e36 at r36 q36 l36 ⊢;obtain ⟨e36,b36s,lf36⟩:=e36;dsimp only at r36 q36 l36 ⊢;obtain ⟨kd,nm,hd_,ex,th,el⟩:=e36;obtain ⟨p1,c1,p2,c2,p3,c3,rfl,hs1,hs2,hs3,hn1,hn2⟩:=jA r36;rw [hE36] at hst;dsimp only at hst;exact .bl Z (Fx.bsl156_1 _ _ _ _ _ _) Z fun b37=>.ap (news:=[.int .i64 kd.toNat,aB nm,aB hd_,.slice p1 ex.length c1,.slice p2 th.length c2,.slice p3 el.length c3]) Fx.row156 Z (fun _=>cJ) Z (.box (.head _) z0) Z (by simp [Value.oneCell',aB]) (by simp [maxLen];omega) (by omega) Z fun r38 _=>.a Z Z<|.nl<|.bN<|.tN<|.ag (x:=(k,f+1,H1,r,xs,.slice pB b1.length cB,lf1)) (k+1,f,H36,r38,xs++[.int .i64 kd.toNat,aB nm,aB hd_,.slice p1 ex.length c1,.slice p2 th.length c2,.slice p3 el.length c3],v36,lf36) ⟨rfl,trivial⟩ ⟨rfl,rfl,trivial⟩ (fun _ s=>(s.p3_2 [2,1] Z)) ⟨by dsimp only;have:=hst;omega,l36,by dsimp only;omega,u1.trans u36,es++[.mk kd nm hd_ ex th el],b36s,by simp;omega,by dsimp only;rw [List.map_append];exact (hz.up u36.up).snoc r36 Z,q36,by dsimp only;rw [heq,jZ,if_neg hnn,if_neg h13,hE36,List.append_assoc];rfl⟩ (by dsimp only;omega)
  try simp only [df] at h19
  have hbe:b1=[]∨lf1=0:=.inr (by omega);have heqF:jZ st 13 (by_,lf)=(es,(b1,lf1)):=by rw [heq,jZ,if_pos hbe,List.append_nil]
  refine .ex<|.tE<|.tE<|.bE<|.tN<|.sr<|.mv Z<|.a Z Z<|.nt<|.rt<|?_
  refine At.pt (hd:=[_,_]) (tl:=bs) (hd':=[_,_]) [0,1] rfl rfl ?_;refine Sx.freezeSeq (ds:=es.map (dSm .i64)) (by simp;omega) hz fun H3 p3 c3 u3 hr3 hs3=>?_;exact Sx.ret1 (.inl rfl) rfl (.tmp rfl) fun W t=>⟨(r,_,H3),by rw [heqF];exact ⟨u1.trans u3,hs3,hb1.up u3.up,hl1⟩,rfl,by rw [heqF];exact t⟩
 try simp only [df] at h13
 have hbe:b1=[]∨lf1=0:=.inl (List.eq_nil_of_length_eq_zero (by omega));have heqF:jZ st 13 (by_,lf)=(es,(b1,lf1)):=by rw [heq,jZ,if_pos hbe,List.append_nil]
 refine .gG<|.gG<|.gG<|.gG<|.gG<|.yw (.pickF Z Z)<|.nt<|.cF Z<|.ex<|.tE<|.tE<|.bE<|.tN<|.sr<|.mv Z<|.a Z Z<|.nt<|.rt<|?_
 refine At.pt (hd:=[_,_]) (tl:=bs) (hd':=[_,_]) [0,1] rfl rfl ?_;refine Sx.freezeSeq (ds:=es.map (dSm .i64)) (by simp;omega) hz fun H3 p3 c3 u3 hr3 hs3=>?_;exact Sx.ret1 (.inl rfl) rfl (.tmp rfl) fun W t=>⟨(r,_,H3),by rw [heqF];exact ⟨u1.trans u3,hs3,hb1.up u3.up,hl1⟩,rfl,by rw [heqF];exact t⟩
theorem oJ (M:Mk) (k d:Nat) (bd:Bs × Nat→List Sm × (Bs × Nat)) (hm:∀ x,(bd x).2.2≤x.2) (b:Bs) (lf:Nat):(cN M k d bd b lf).2.2≤lf:=by
 unfold cN
 split
 ·exact Nat.le_refl _
 split
 ·exact Nat.le_refl _
 split
 ·exact Nat.le_refl _
 split
 ·exact Nat.le_trans (hm _) (hm _)
 split
 ·exact hm _
 split
 ·exact Nat.le_refl _
 split
 ·exact Nat.le_refl _
 split
 ·split
  ·exact hm _
  ·exact hm _
 split
 ·exact Nat.le_refl _
 ·exact Nat.le_refl _
theorem sE (st:Nat→Bs→Nat→Sm × (Bs × Nat)) (hm:∀ k b lf,(st k b lf).2.2≤lf):∀ f x,(jZ st f x).2.2≤x.2
 | 0,x=>Nat.le_refl _
 | f+1,(b,lf)=>by
  unfold jZ
  split
  ·exact Nat.le_refl _
  ·split
   ·exact Nat.le_refl _
   ·refine Nat.le_trans (sE st hm f _) (Nat.le_trans (hm _ _ _) (Nat.sub_le _ _))
theorem yM (M:Mk):∀ f x,(sG M f x).2.2≤x.2
 | 0,x=>sE _ (fun k b lf=>oJ M k 3 _ (fun _=>Nat.le_refl _) b lf) _ _
 | f+1,x=>sE _ (fun k b lf=>oJ M k (2 - f) _ (yM M f) b lf) _ _
theorem yL (M:Mk) (hM:okA M):∀ f,f≤3→PP (sG M f) M (3 - f)
 | 0,_=>yK M 3 (by omega) _ (xH M hM 3 (by omega) _ fun h=>by omega) fun k b lf=>oJ M k 3 _ (fun _=>Nat.le_refl _) b lf
 | f+1,hf=>by
  have e:3 - (f+1)=2 - f:=by omega
  rw [e];refine yK M (2 - f) (by omega) (fun k=>cN M k (2 - f) (sG M f)) (xH M hM (2 - f) (by omega) _ fun _=>?_) fun k b lf=>oJ M k (2 - f) _ (yM M f) b lf;rw [show 2 - f+1=3 - f by omega];exact yL M hM f (by omega)
end Go.Proofs.YthhoebdlfjffkaaGreatDoor
