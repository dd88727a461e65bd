/- Texts of the proof, one behind the other. -/
import Derived.Test.YtidclioghdbphaaGreatDoorMg
import Derived.Test.YtidclioghdbphaaGreatDoorTie
import Derived.ProofKit
import Derived.OpenShut
import Derived.ShutString
import Derived.Lay
import Derived.Stop.LaidErr
import Derived.Stop.Joined
import Derived.Shelf.Vars
import Derived.Lib.LaidTab
import Derived.Lib.SmallJoins
import Derived.SevenTiedAt
import Derived.Test.YtidclioghdbphaaGreatDoorCards
set_option linter.all false
set_option maxRecDepth 100000
namespace Go.Proofs.YtidclioghdbphaaGreatDoor
section
variable {α β:Type}
structure PE (N:Nat) (p:Pz α):Prop where
 pf:Pf N p
 en:En p
theorem PE.le {N M:Nat} {p:Pz α} (h:PE N p) (k:M<=N):PE M p:=⟨h.pf.le k,h.en⟩
theorem PE.pure {N:Nat} (a:α):PE N (gPure a):=⟨.pure a,.pure a⟩
theorem PE.bind {N:Nat} {p:Pz α} {f:α->Pz β} (hp:PE N p) (hf:∀ a,PE N (f a)):PE N (gBind p f):=⟨.bind hp.pf (λa=>(hf a).pf) (λa=>(hf a).en),.bind hp.en λa=>(hf a).en⟩
theorem PE.nd {N:Nat} (w:Str):PE N (gNd w):=⟨.nd w,.nd w⟩
theorem PE.nm {N:Nat}:PE N gNm:=⟨.nm,.nm⟩
theorem PE.nu {N:Nat}:PE N gNu:=⟨.nu,.nu⟩
theorem PE.alt {N:Nat} {w:Str} {p q:Pz α} (hp:∀ M,M+1<=N->PE M p) (hq:PE N q):PE N (gAlt w p q):=⟨.alt (λM h=>(hp M h).pf) hq.pf hq.en,.alt hq.en⟩
theorem PE.many {N:Nat} {w:Str} {p:Pz α} (hs:Shr p) (hp:∀ M,M+1<=N->PE M p):PE N (gMany w p):=⟨.many hs N λM h=>(hp M h).pf,.many⟩
theorem PE.list {N:Nat} {p:Pz α} (hs:Shr p) (hp:∀ M,M<=N->PE M p):PE N (gList p):=.bind (.nd _) λ_=>.alt (λM _=>.pure _) (.bind (hp N (Al_Nat_le_refl _)) λ_=>.bind (.many hs λM h=>hp M (by omega)) λ_=>.bind (.nd _) λ_=>.pure _)
end
theorem opAt_nil (lv:Nat):opAt lv []=none:=by
 have h:(opsL lv).find? (λx=>isT x.1 [])=none:=List.find?_eq_none.2 (λx _=>Bool.false_ne_true);unfold opAt;rw [h]
 rfl
theorem En.l (lv:Nat) (a:Ex):En (gL lv a):=.inr ⟨a,pL_none (opAt_nil lv)⟩
theorem En.nam:En gNam:=.bind .nm λ_=>.alt (.pure _)
theorem En.prim:En gPrim:=.alt<|.alt<|.alt<|.alt<|.alt<|.alt En.nam
theorem En.x:∀ (d lv:Nat),lv+d=5->En (gX lv)
 | 0,lv,h=>by
  obtain rfl:lv=5:=by omega
  rw [gX_un,prim_eq];exact .alt (.alt En.prim)
 | d+1,lv,h=>by
  rw [gX_low (by omega)];exact .bind (En.x d (lv+1) (by omega)) λa=>En.l lv a
theorem Shr.l (lv:Nat) (a:Ex):Shr (gL lv a):=λr b r' e=>(pE_len _).2 _ _ _ _ _ e
theorem Pf.xl:∀ (N:Nat),(∀ lv,lv<=5->Pf N (gX lv))/\(∀ lv,lv<=4->∀ a,Pf N (gL lv a))
 | 0=>⟨λlv _=>.zero (Shs.gx lv).le,λlv _ a=>.zero (Shr.l lv a)⟩
 | N+1=>by
  obtain ⟨ih1,ih2⟩:=Pf.xl N;have x:∀ lv,lv<=5->∀ M,M+1<=N+1->PE M (gX lv):=λlv h M hM=>⟨(ih1 lv h).le (by omega),En.x (5 - lv) lv (by omega)⟩
  have hk:∀ lv op a b,lv<=4->∀ M,M+1<=N+1->PE M (gK lv op a b):=λlv op a b h M hM=>by
   unfold gK
   split
   ·exact .pure _
   ·exact ⟨(ih2 lv h _).le (by omega),En.l lv _⟩
  have hl:∀ lv,lv<=4->∀ a,Pf (N+1) (gL lv a):=λlv h a=>by
   refine .choice (c:=λr=>(opAt lv r).isSome) (p:=λt=>match opAt lv [t] with | some op=>gBind (gX (lv+1)) (gK lv op a) | none=>gPure a) (q:=gPure a) ?_ (λ_ _ _=>rfl) ?_ ?_ ?_ (.pure _) (.pure _)
   ·show (opAt lv []).isSome=false;rw [opAt_nil]
    rfl
   ·intro t r e;obtain ⟨op,e⟩:=Al_Option_isSome_iff_exists.1 e;have e2:opAt lv [t]=some op:=e;simp only [e2];show pL lv a (t::r)=_;rw [pL_some h e];refine Rs.bind_congr rfl λb q _=>?_;unfold gK
    split <;> rfl
   ·intro r e
    have e2:opAt lv r=none:=by
     cases k:opAt lv r with
     | none=>rfl
     | some op=>rw [k] at e;cases e
    exact pL_none e2
   ·intro t M hM;show Pf M (match opAt lv [t] with | some op=>gBind (gX (lv+1)) (gK lv op a) | none=>gPure a);cases opAt lv [t] with
    | none=>exact .pure _
    | some op=>exact (PE.bind (x (lv+1) (by omega) M hM) λb=>hk lv op a b h M hM).pf
  have key:∀ op nm M,M+1<=N+1->PE M (gKey op nm):=λop nm M hM=>.bind (x 0 (by omega) M hM) λ_=>.bind (.nd _) λ_=>.pure _;have nam:PE (N+1) gNam:=.bind .nm λs=>.alt (λM hM=>key 6 s M hM) (.pure _);have last:PE (N+1) gLast:=⟨.look (c:=isNum) (p:=gNum) (q:=gNam) rfl (λ_ _ _=>rfl) (λr h=>by unfold gLast;rw [Al_if_pos h]) (λr h=>by unfold gLast;rw [Al_if_neg (by rw [h];decide)]) (PE.bind .nu λ_=>.pure _).pf nam.pf nam.en,nam.en⟩;have prim:PE (N+1) gPrim:=.alt (λ_ _=>.pure _)<|.alt (λ_ _=>.pure _)<|.alt (λ_ _=>.pure _)<|.alt (λ_ _=>.bind .nm λ_=>.pure _)<|.alt (λM hM=>.bind .nm λs=>.bind (.nd _) λ_=>key 7 s M hM)<|.alt (λM hM=>.bind (x 0 (by omega) M hM) λ_=>.bind (.nd _) λ_=>.pure _) last
  have h5:PE (N+1) (gX 5):=by
   rw [gX_un,prim_eq];exact .alt (λM hM=>.bind (x 5 (by omega) M hM) λ_=>.pure _)<|.alt (λM hM=>.bind (x 5 (by omega) M hM) λ_=>.pure _) prim
  have all:∀ d lv,lv+d=5->PE (N+1) (gX lv):=λd=>by
   induction d with
   | zero =>
    intro lv h;obtain rfl:lv=5:=by omega
    exact h5
   | succ d ih =>
    intro lv h;rw [gX_low (by omega)];exact .bind (ih (lv+1) (by omega)) λa=>⟨hl lv (by omega) a,En.l lv a⟩
  exact ⟨λlv h=>(all (5 - lv) lv (by omega)).pf,hl⟩
variable {N:Nat}
theorem PE.ex:PE N gEx:=⟨(Pf.xl N).1 0 (by omega),En.x 5 0 rfl⟩
theorem PE.st {b:Pz (List Sm)} (hb:∀ M,M+1<=N->PE M b):PE N (gSt b):=by
 have blk:∀ M,M+1<=N->PE M (gBlk b):=λM h=>.bind (.nd _) λ_=>.bind (hb M h) λ_=>.bind (.nd _) λ_=>.pure _;have els:∀ M,M+1<=N->PE M (gEls b):=λM h=>.alt (λM' h'=>blk M' (by omega)) (.pure _);have oth:∀ M,M+1<=N->PE M (gOth b):=λM h=>.alt (λM' h'=>blk M' (by omega)) (.bind (.nd _) λ_=>.pure _);have lst:∀ M,PE M (gList gEx):=λM=>.list Shs.ex.le λ_ _=>.ex
 exact .alt (λM h=>.bind .ex λ_=>.bind (blk M h) λ_=>.bind (els M h) λ_=>.pure _)<|.alt (λM h=>.bind .ex λ_=>.bind (blk M h) λ_=>.pure _)<|.alt (λM h=>.bind .ex λ_=>.bind (.nd _) λ_=>.bind .ex λ_=>.bind (oth M h) λ_=>.pure _)<|.alt (λM h=>.bind .nm λ_=>.bind (.nd _) λ_=>.bind .ex λ_=>.bind (oth M h) λ_=>.pure _)<|.alt (λM h=>.bind .nm λ_=>.bind (.nd _) λ_=>.bind .nm λ_=>.bind (lst M) λ_=>.bind (.nd _) λ_=>.pure _)<|.alt (λM h=>.bind .ex λ_=>.bind (.nd _) λ_=>.bind .nm λ_=>.bind (lst M) λ_=>.bind (.nd _) λ_=>.pure _)<|.alt (λM h=>.bind (.nd _) λ_=>.pure _)<|.alt (λM h=>.bind .nm λ_=>.bind (.nd _) λ_=>.bind .ex λ_=>.bind (.nd _) λ_=>.bind (.nd _) λ_=>.pure _)<|.bind .nm λ_=>.alt (λM h=>.bind .ex λ_=>.bind (.nd _) λ_=>.bind (.nd _) λ_=>.bind .ex λ_=>.bind (.nd _) λ_=>.pure _)
  (.bind (.nd _) λ_=>.bind .ex λ_=>.bind (.nd _) λ_=>.pure _)
theorem En.b:En gB:=.inl (by rw [gB_eq];rfl)
theorem PE.b:∀ N,PE N gB
 | 0=>⟨.zero Shr.b,En.b⟩
 | N+1=>by
  have st:PE (N+1) (gSt gB):=.st λM h=>(PE.b N).le (by omega);have rest:∀ a:Sm,PE N (gBind gB λl=>gPure (a::l)):=λa=>.bind (PE.b N) λ_=>.pure _
  refine ⟨.look (c:=isT [125]) (p:=gPure []) (q:=gBind (gSt gB) λs=>gBind gB λl=>gPure (s::l)) rfl (λ_ _ _=>rfl) (λr h=>?_) (λr h=>?_) (.pure _)
   (.bindS st.pf (λr a q hr e=>?_) (λa=>(rest a).pf) (λa=>(rest a).en)) (.bind st.en λa=>(rest a).en),En.b⟩
  ·rw [gB_eq,Al_if_pos h]
   rfl
  ·rw [gB_eq,Al_if_neg (by rw [h];decide)]
   rfl
  ·have:=Shs.st Shr.b _ _ _ e;omega
theorem PE.blk:PE N (gBlk gB):=.bind (.nd _) λ_=>.bind (.b N) λ_=>.bind (.nd _) λ_=>.pure _
theorem PE.int:PE N gInt:=.alt (λ_ _=>.bind .nu λ_=>.pure _) .nu
theorem PE.hd:PE N gHd:=.bind .nm λ_=>.bind (.list Shs.nm.le λ_ _=>.nm) λ_=>.bind .blk λ_=>.pure _
structure Xf {α:Type} (p:Pz α):Prop where
 no:p []=.er [] 8
 go:∀ r a q w,p r=.ok a q->p (r++w)=.ok a (q++w)
theorem Xf.nd (w:Str):Xf (gNd w):=⟨Z,λr a q z e=>by
 cases r with
 | nil=>cases e
 | cons t r =>
  unfold gNd at e
  split at e
  ·rename_i h;injection e with _ e
   subst e;show (if isT w (t::(r++z))=true then _ else _)=_;have h2:isT w (t::(r++z))=true:=h;rw [Al_if_pos h2]
   rfl
  ·cases e⟩
theorem Xf.pure {α β:Type} {p:Pz α} {f:α->β} (h:Xf p):Xf (gBind p λa=>gPure (f a)):=⟨by unfold gBind;rw [h.no];rfl,λr b q w e=>by
 obtain ⟨a,q1,h1,h2⟩:=Rs.bind_ok e;injection h2 with h2 h3
 subst h2;subst h3;unfold gBind;rw [h.go r a q1 w h1]
 rfl⟩
theorem Xf.bind {α β:Type} {p:Pz α} {f:α->Pz β} (hp:∀ N,PE N p) (hf:∀ a,Xf (f a)):Xf (gBind p f):=⟨by
 unfold gBind;rcases (hp 0).en with h | ⟨b,h⟩
 ·rw [h];rfl
 ·rw [h];exact (hf b).no,λr b q' w e=>by
 obtain ⟨a,q,h1,h2⟩:=Rs.bind_ok e
 have hq:q≠[]:=λk=>by
  subst k;rw [(hf a).no] at h2;cases h2
 obtain ⟨u,rfl,_,B⟩:=(hp r.length).pf _ _ _ (Al_Nat_le_refl _) h1;have h3:=B (q++w) (λk=>hq (Al_List_append_eq_nil_iff.1 k).1) (by cases q with | nil=>exact absurd rfl hq | cons t q=>rfl);unfold gBind;rw [Al_List_append_assoc,h3];exact (hf a).go q b q' w h2⟩
def parP (ks:List Kt):List Kt:=(4,[40])::(ks++[(4,[41])])
def RdK (ks:List Kt) (e:Ex):Prop:=∀ le r,le.map kt=ks->Stp 0 r->pX 0 (le++r)=.ok e r
variable {ks:List Kt}
theorem RdK.par {e:Ex} (h:RdK ks e) {le r:List Tk} (hk:le.map kt=parP ks):pX 5 (le++r)=.ok e r:=by
 unfold parP at hk;obtain ⟨t,l1,rfl,ht,hk⟩:=Al_List_map_eq_cons_iff.1 hk;obtain ⟨l2,l3,rfl,h2,h3⟩:=Al_List_map_eq_append_iff.1 hk;obtain ⟨t2,l4,rfl,ht2,h4⟩:=Al_List_map_eq_cons_iff.1 h3;obtain rfl:=Al_List_map_eq_nil_iff.1 h4;simp only [Al_List_cons_append,Al_List_append_assoc,Al_List_nil_append];have hf:=h l2 (t2::r) h2 (.of (by rw [ht2];decide) (by rw [ht2];decide));rw [pX_un,isT_cons,isT_cons,ht,Al_if_neg (by decide),Al_if_neg (by decide),primE];have hk0:t.k=4:=congrArg Prod.fst ht;simp only [isT_cons,ht];rw [Al_if_neg (by rw [hk0];decide),Al_if_neg (by decide),Al_if_neg (by decide),Al_if_neg (by decide),Al_if_neg (by decide),Al_if_pos (by decide),hf];show needT [41] (t2::r) _=_;rw [needT,isT_cons,ht2,Al_if_pos (by decide)]
 rfl
end Go.Proofs.YtidclioghdbphaaGreatDoor
/- Plain: expressions with all parentheses are read back: the cases beside two operands. -/
namespace Go.Proofs.YtidclioghdbphaaGreatDoor
mutual
def fullK:Ex->List Kt
 | .mk op nm n args=>match fullKs args with
  | []=>ktE (.mk op nm n [])
  | [b]=>if op=6 then (1,nm)::(4,[91])::(b++[(4,[93])]) else if op=7 then (2,[104,97,115])::(1,nm)::(4,[91])::(b++[(4,[93])])
   else if op=9 then (4,[45])::parP b else (2,[110,111,116])::parP b
  | a::b::_=>parP a++symK op::parP b
def fullKs:List Ex->List (List Kt)
 | []=>[]
 | e::r=>fullK e::fullKs r
end
mutual
def fullS:Ex->Str
 | .mk op nm n args=>match fullSs args with
  | []=>Ex.text (.mk op nm n [])
  | [b]=>if op=6 then nm++91::(b++[93]) else if op=7 then [104,97,115]++32::(nm++91::(b++[93]))
   else if op=9 then 45::32::40::(b++[41]) else [110,111,116]++32::40::(b++[41])
  | a::b::_=>40::(a++41::((shapeOf op).tx++40::(b++[41])))
def fullSs:List Ex->List Str
 | []=>[]
 | e::r=>fullS e::fullSs r
end
def LxF (e:Ex):Prop:=∀ r ks,sepB r->Lx r ks->Lx (fullS e++r) (fullK e++ks)/\hdB (fullS e++r)
variable {r:Str} {ks:List Kt}
theorem LxF.par {e:Ex} (h:LxF e) (hr:hdB r) (hk:Lx r ks):Lx (40::(fullS e++41::r)) (parP (fullK e)++ks):=by
 obtain ⟨k1,k2⟩:=h (41::r) ((4,[41])::ks) cl_sep (.sy (by decide) hr hk);have e2:parP (fullK e)++ks=(4,[40])::(fullK e++(4,[41])::ks):=by simp [parP]
 rw [e2];exact .sy (by decide) k2 k1
variable {n:Nat}
theorem readK_split {c:UInt8} {k:UInt8} (h:readK (c::r)=(k,n)) (h5:k≠5) :
 (letB c=true/\n=pre insB (c::r)/\(if words.contains ((c::r).take n) then (2:UInt8) else if n<=12 then 1 else 5)=k) \/
 (letB c=false/\digB c=true/\n=pre digB (c::r)/\(n=1\/c≠48)/\k=3) \/
 (letB c=false/\digB c=false/\k=4/\∃ y,symbols.find? (λx=>x.isPrefixOf (c::r))=some y/\n=y.length):=by
 cases h1:letB c with
 | true =>
  refine .inl ⟨Z,?_⟩;cases h4:words.contains ((c::r).take (pre insB (c::r))) with
  | true =>
   simp only [readK,Al_List_headD_cons,h1,h4,Al_if_true,Al_Prod_mk_injEq] at h;obtain ⟨rfl,rfl⟩:=h;exact ⟨Z,by rw [h4];rfl⟩
  | false =>
   by_cases h6:pre insB (c::r)<=12
   ·simp only [readK,Al_List_headD_cons,h1,h4,h6,Al_if_true,Al_Bool_false_eq_true,Al_if_false,Al_Prod_mk_injEq] at h;obtain ⟨rfl,rfl⟩:=h;exact ⟨Z,by rw [h4,Al_if_neg (by decide),Al_if_pos h6]⟩
   ·simp only [readK,Al_List_headD_cons,h1,h4,h6,Al_if_true,Al_Bool_false_eq_true,Al_if_false,Al_Prod_mk_injEq] at h;exact absurd h.1.symm h5
 | false =>
  cases h4:digB c with
  | true =>
   by_cases h6:pre digB (c::r)=1\/c≠48
   ·simp only [readK,Al_List_headD_cons,h1,h4,h6,Al_if_true,Al_Bool_false_eq_true,Al_if_false,Al_Prod_mk_injEq] at h;obtain ⟨rfl,rfl⟩:=h;exact .inr (.inl ⟨Z,Z,Z,h6,Z⟩)
   ·simp only [readK,Al_List_headD_cons,h1,h4,h6,Al_if_true,Al_Bool_false_eq_true,Al_if_false,Al_Prod_mk_injEq] at h;exact absurd h.1.symm h5
  | false =>
   cases hx:symbols.find? (λx=>x.isPrefixOf (c::r)) with
   | none =>
    simp only [readK,Al_List_headD_cons,h1,h4,hx,Al_Bool_false_eq_true,Al_if_false,Al_Prod_mk_injEq] at h;exact absurd h.1.symm h5
   | some y =>
    simp only [readK,Al_List_headD_cons,h1,h4,hx,Al_Bool_false_eq_true,Al_if_false,Al_Prod_mk_injEq] at h;obtain ⟨rfl,rfl⟩:=h;exact .inr (.inr ⟨Z,Z,Z,y,Z,Z⟩)
theorem tok_dig {c:UInt8} {t:Str} (hsh:(c::t).length<=1000000) (hall:(c::t).all digB=true) (h2:t=[]\/c≠48) (hr:∀ d,r.head? = some d->digB d=false):Tok (3,c::t) r:=by
 have hp:pre digB ((c::t)++r)=(c::t).length:=pre_app hall hr;rw [Al_List_all_cons,Al_Bool_and_eq_true] at hall;have hb:=dig_blk c hall.1;refine ⟨by simp,?_,skipS_stop hb.1 (λe=>hb.2.1 e.1),(show (3:UInt8)≠5 by decide),hsh⟩;show readK ((c::t)++r)=(3,(c::t).length);unfold readK;simp only;rw [show ((c::t)++r).headD 0=c from rfl,hb.2.2.2.2.2,Al_if_neg (by decide),hall.1,Al_if_pos rfl,hp];refine Al_if_pos ?_;rcases h2 with rfl | h2
 ·exact .inl Z
 ·exact .inr h2
variable {w:Str}
theorem pre_take_all {q:UInt8->Bool} (h:pre q (w++r)=w.length):w.all q=true/\∀ d,r.head? = some d->q d=false:=by
 induction w with
 | nil =>
  refine ⟨Z,λd hd=>?_⟩;cases r with
  | nil=>cases hd
  | cons e r =>
   obtain rfl:e=d:=Al_Option_some_inj hd;cases hq:q e with
   | false=>rfl
   | true =>
    rw [Al_List_nil_append] at h;unfold pre at h;rw [Al_List_takeWhile_cons,hq] at h;simp at h
 | cons a w ih =>
  rw [Al_List_cons_append] at h;unfold pre at h;rw [Al_List_takeWhile_cons] at h;cases hq:q a with
  | false=>rw [hq] at h;simp at h
  | true =>
   rw [hq] at h;have:=ih (by unfold pre;simpa using h);exact ⟨by rw [Al_List_all_cons,hq,this.1];rfl,this.2⟩
theorem find_ext {α:Type} {p q:α->Bool}:∀ {l:List α},(∀ x∈l,p x=q x)->l.find? p=l.find? q
 | [],_=>rfl
 | a::l,h=>by
  rw [List.find?_cons,List.find?_cons,h a (by simp),find_ext λx hx=>h x (Al_List_mem_cons_of_mem _ hx)]
theorem sym_facts:∀ w∈symbols,w≠[]/\letB (w.headD 0)=false/\digB (w.headD 0)=false/\blkB (w.headD 0)=false/\w.take 2≠[47,47]/\w.all (λc=>!blkB c)=true/\w.length<=2/\symbols.find? (λx=>x.isPrefixOf w)=some w:=by decide +kernel
theorem prefix_two {z a b:Str} (hz:z.length<=2) (h:a.take 2=b.take 2):z.isPrefixOf a=z.isPrefixOf b:=by
 have key:∀ (m:Str),z.isPrefixOf m=z.isPrefixOf (m.take 2):=by
  intro m
  match z,hz,m with
  | [],_,m=>simp [List.isPrefixOf]
  | [x],_,[]=>rfl
  | [x],_,[y]=>rfl
  | [x],_,y::u::m=>rfl
  | [x,x'],_,[]=>rfl
  | [x,x'],_,[y]=>rfl
  | [x,x'],_,y::u::m=>rfl
 rw [key a,key b,h]
theorem Tok.tail {x:Kt} {d:UInt8} {r':Str} (h:Tok x (d::r)):Tok x (d::r'):=by
 obtain ⟨k,w⟩:=x;have hne:=h.ne
 match w,hne with
 | c::t,hne =>
  have hrd:readK (c::(t++d::r))=(k,(c::t).length):=h.read;have htk:(c::(t++d::r)).take (c::t).length=c::t:=by rw [<-Al_List_cons_append,Al_List_take_left]
  have h2t:((c::t)++d::r).take 2=((c::t)++d::r').take 2:=by
   cases t with
   | nil=>rfl
   | cons b t=>rfl
  have hsk:skipS false ((c::t)++d::r')=(c::t)++d::r':=by
   have h0:skipS false (c::(t++d::r))=c::(t++d::r):=h.skip;rw [skipS] at h0
   have hb:blkB c=false:=by
    cases e:blkB c with
    | false=>rfl
    | true =>
     rw [Al_if_pos e] at h0;have h1:=congrArg List.length h0;have h2:=skipS_len false (t++d::r);rw [Al_List_length_cons] at h1;omega
   rw [Al_if_neg (by rw [hb];decide)] at h0;refine skipS_stop hb λe=>?_;have e2:(t++d::r').head? = (t++d::r).head? := by cases t <;> rfl
   have e1:c=47/\(t++d::r').head? = some 47:=e;rw [e2] at e1;rw [Al_if_pos e1] at h0;have h1:=congrArg List.length h0;have h2:=skipS_len true (t++d::r);rw [Al_List_length_cons] at h1;omega
  refine ⟨h.ne,?_,hsk,h.k5,h.sh⟩;show readK ((c::t)++d::r')=(k,(c::t).length);rcases readK_split hrd h.k5 with ⟨h1,h2,h3⟩ | ⟨h1,h2,h3,h4,h5⟩ | ⟨h1,h2,h3,y,h4,h5⟩
  ·have ha:=pre_take_all (w:=c::t) (r:=d::r) h2.symm;have hp:pre insB ((c::t)++d::r')=(c::t).length:=pre_app ha.1 λe he=>ha.2 e he;rw [htk] at h3;unfold readK;simp only;rw [show ((c::t)++d::r').headD 0=c from rfl,h1,Al_if_pos rfl,hp,Al_List_take_left]
   split at h3
   ·rename_i e;rw [Al_if_pos e,<-h3]
   ·rename_i e;rw [Al_if_neg e]
    split at h3
    ·rename_i e2;rw [Al_if_pos e2,<-h3]
    ·exact absurd h3.symm h.k5
  ·obtain rfl:k=3:=h5;have ha:=pre_take_all (w:=c::t) (r:=d::r) h3.symm;have hp:pre digB ((c::t)++d::r')=(c::t).length:=pre_app ha.1 λe he=>ha.2 e he;unfold readK;simp only;rw [show ((c::t)++d::r').headD 0=c from rfl,h1,Al_if_neg (by decide),h2,Al_if_pos rfl,hp];exact Al_if_pos h4
  ·obtain rfl:k=4:=h3
   have hf:symbols.find? (λx=>x.isPrefixOf ((c::t)++d::r'))=some y:=by
    rw [<-h4];exact find_ext λx hx=>prefix_two (sym_facts x hx).2.2.2.2.2.2.1 h2t.symm
   unfold readK;simp only;rw [show ((c::t)++d::r').headD 0=c from rfl,h1,h2,hf];simp [<-h5]
variable {s:Str}
theorem Lx.size {k:List Kt} (h:Lx s k):(k.map λx=>x.2.length).sum<=s.length/\k.length<=(k.map λx=>x.2.length).sum:=by
 induction h with
 | nil=>simp
 | blk _ _ ih=>simp only [Al_List_length_cons];omega
 | @tok x s k ht _ ih =>
  have:=Al_List_length_pos_iff.2 ht.ne;simp only [Al_List_map_cons,List.sum_cons,Al_List_length_cons,Al_List_length_append];omega
end Go.Proofs.YtidclioghdbphaaGreatDoor
namespace Go.Proofs.YtidclioghdbphaaGreatDoor
open Go.RowKit Go.Par Go.Sx _root_.Go.Proofs.Tryz
def tqN (n:Str):List Kt:=match splitF n with | some (a,b)=>[(1,a),(4,[46]),(1,b)] | none=>[(1,n)]
def prQ (b:Bool) (l:List Kt):List Kt:=if b then (4,[40])::(l++[(4,[41])]) else l
def hdQ (l:List (UInt8 × List Kt)):UInt8 × List Kt:=l.headD (0,[])
def tqO (op:UInt8) (nm:Str) (n:Int64) (l:List (UInt8 × List Kt)):List Kt :=
 if op=1 then [(3,Lib.itoa n.toInt)]
 else if op=4 then [(2,[110,111,119])]
 else if op=5 then tqN nm
 else if op=6 then tqN nm++((4,[91])::((hdQ l).2++[(4,[93])]))
 else if op=8 then (2,[115,105,122,101])::tqN nm
 else if op=9 then (4,[45])::prQ (decide (tlv (hdQ l).1<6)) (hdQ l).2
 else if op=11\/op=12\/op=13\/op=14\/op=15 then
  prQ (decide (tlv (hdQ l).1<tlv op)) (hdQ l).2++(4,symT op)::prQ (decide (tlv (hdQ (l.drop 1)).1<tlv op+1)) (hdQ (l.drop 1)).2
 else [(4,[95])]
mutual
def tqT:Ex->List Kt
 | .mk op nm n args=>tqO op nm n (tqTs args)
def tqTs:List Ex->List (UInt8 × List Kt)
 | []=>[]
 | e::r=>(e.op,tqT e)::tqTs r
end
theorem tqTs_map:∀ l,tqTs l=l.map λe=>(e.op,tqT e)
 | []=>rfl
 | e::r=>by rw [tqTs,tqTs_map r];rfl
theorem tq_mk {op:UInt8} {nm:Str} {n:Int64} {args:List Ex} :tqT (.mk op nm n args)=tqO op nm n (args.map λe=>(e.op,tqT e)):=by rw [tqT,tqTs_map]
def nmQ (n:Str):Bool:=match splitF n with | some (a,b)=>nameB a && nameB b | none=>nameB n
theorem splitF_back:∀ {n a b:Str},splitF n=some (a,b)->n=a++([46]:Str)++b
 | [],_,_,h=>by cases h
 | c::r,a,b,h=>by
  rw [splitF] at h
  split at h
  ·rename_i hc;cases h;rw [hc];rfl
  ·cases hs:splitF r with
   | none=>rw [hs] at h;cases h
   | some x =>
    obtain ⟨y,z⟩:=x;rw [hs] at h;cases h;rw [splitF_back hs];rfl
def wrB (r:Str):Prop:=∀ c,r.head? = some c->insB c=false
variable {w r:Str}
theorem tok_nameW (hw:nameB w=true) (hr:wrB r):Tok (1,w) r:=by
 obtain ⟨h1,hl,hw,h4,h5⟩:=nameB_facts hw
 match w,h1 with
 | c::t,h0 =>
  have hlb:=let_blk c hl;have hp:pre insB ((c::t)++r)=(c::t).length:=pre_app hw λd hd=>hr d hd;refine ⟨h0,?_,?_,(show (1:UInt8)≠5 by decide),(by show (c::t).length<=1000000;omega)⟩
  ·show readK ((c::t)++r)=(1,(c::t).length);unfold readK;simp only;rw [show ((c::t)++r).headD 0=c from rfl,show letB c=true from hl,Al_if_pos rfl,hp,Al_List_take_left,h4,Al_if_neg (by decide),Al_if_pos h5]
  ·exact skipS_stop hlb.1 (λe=>hlb.2.1 e.1)
theorem Lx.nw {k:List Kt} (hw:nameB w=true) (hr:wrB r) (h:Lx r k):Lx (w++r) ((1,w)::k):=.tok (x:=(1,w)) (tok_nameW hw hr) h
theorem tok_us:Tok (4,[95]) r:=by
 refine ⟨by simp,?_,?_,(show (4:UInt8)≠5 by decide),(by show (1:Nat)<=_;omega)⟩
 ·show readK (95::r)=(4,1);simp [readK,letB,digB,symbols,List.find?,List.isPrefixOf]
 ·show skipS false (95::r)=95::r;simp [skipS,blkB]
theorem tok_dd:Tok (4,[46,46]) r:=by
 refine ⟨by simp,?_,?_,(show (4:UInt8)≠5 by decide),(by show (2:Nat)<=_;omega)⟩
 ·show readK (46::46::r)=(4,2);simp [readK,letB,digB,symbols,List.find?,List.isPrefixOf]
 ·show skipS false (46::46::r)=46::46::r;simp [skipS,blkB]
theorem tok_numD {u:Nat} (hu:u<=9223372036854775808) (hr:∀ d,r.head? = some d->digB d=false):Tok (3,Lib.decDigits u) r:=by
 have hdl:=dec_len hu;obtain ⟨c,t,e,h2,_⟩:=digits_hd u
 have hall:(Lib.decDigits u).all digB=true:=Al_List_all_eq_true.2 λd hd=>by
  have:=Plain.digits_are u d hd;simp only [digB,Al_Bool_and_eq_true,Al_decide_eq_true_eq];exact this
 rw [e] at hall hdl|-;exact tok_dig (by omega) hall h2 hr
theorem Lx.nd {u:Nat} {k:List Kt} (hu:u<=9223372036854775808) (hr:∀ d,r.head? = some d->digB d=false) (h:Lx r k):Lx (Lib.decDigits u++r) ((3,Lib.decDigits u)::k):=.tok (x:=(3,Lib.decDigits u)) (tok_numD hu hr) h
theorem lx_i64 {n:Int64} (h:0<=n.toInt) {k:List Kt} (hr:∀ d,r.head? = some d->digB d=false) (hk:Lx r k):Lx (Lib.itoa n.toInt++r) ((3,Lib.itoa n.toInt)::k)/\hdB (Lib.itoa n.toInt++r):=by
 rw [Lib.itoa,Al_if_neg (by omega)];exact ⟨.nd dec64 hr hk,num_hd⟩
theorem sep_dig (h:sepB r):∀ d,r.head? = some d->digB d=false:=λd e=>ins_dig d (h d e).1
def LxN (s:Str) (q:List Kt):Prop:=∀ r ks,sepB r->Lx r ks->Lx (s++r) (q++ks)/\hdB (s++r)
theorem lx_nmQ {n:Str} (h:nmQ n=true):LxN n (tqN n):=by
 intro r ks hr hk;unfold nmQ at h;unfold tqN;cases hs:splitF n with
 | none =>
  rw [hs] at h;exact ⟨.nm h hr hk,name_hd h⟩
 | some x =>
  obtain ⟨a,b⟩:=x;rw [hs] at h;simp only [Al_Bool_and_eq_true] at h;rw [splitF_back hs];simp only [Al_List_append_assoc,Al_List_cons_append,Al_List_nil_append];exact ⟨.nw h.1 (λc e=>by cases e;decide) (.sy (by decide) (name_hd h.2) (.nm h.2 hr hk)),name_hd h.1⟩
variable {s:Str}
theorem lx_prQ {q:List Kt} (h:LxN s q) (b:Bool):LxN (prnT b s) (prQ b q):=by
 intro r ks hr hk;unfold prnT prQ
 split
 ·simp only [Al_List_cons_append,Al_List_nil_append,Al_List_append_assoc];obtain ⟨h1,h2⟩:=h (41::r) ((4,[41])::ks) cl_sep (.sy (by decide) hr.hd hk);exact ⟨.sy (by decide) h2 h1,hdB_cons (by decide)⟩
 ·exact h r ks hr hk
theorem symT_tx:∀ op∈([11,12,13,14,15,16,17,18,19,20,21]:List UInt8),symT op∈sym2\/∃ c∈sym1,symT op=[c]:=by decide +kernel
theorem lx_sym {op:UInt8} (h:op∈([11,12,13,14,15,16,17,18,19,20,21]:List UInt8)) {k:List Kt} (hk:Lx r k):Lx ([32]++(symT op++([32]++r))) ((4,symT op)::k):=by
 refine .sp ?_;have hs:Lx ([32]++r) k:=hk.sp;rcases symT_tx op h with hw | ⟨c,hc,hw⟩
 ·exact .tok (x:=(4,symT op)) (tok_two hw) hs
 ·rw [hw];exact .sy hc sp_sep.hd hs
theorem mis_op {op:UInt8} {nm:Str} {n:Int64} {args:List Ex} (h:misB (.mk op nm n args)=false):(op=5\/op=6\/op=8->nmQ nm=true)/\(op=6\/op=8->(splitF nm).isSome=true)/\∀ a∈args,misB a=false:=by
 rw [misB_mk,tn_mis,Al_Bool_or_eq_false_iff] at h;obtain ⟨h1,h2⟩:=h;rw [Bool.not_eq_false'] at h1;unfold tnB at h1;refine ⟨λho=>?_,λho=>?_,λa ha=>?_⟩
 ·rw [Al_if_pos ho] at h1;unfold nmQ;cases hs:splitF nm with
  | none=>rw [hs] at h1;simp only [Al_Bool_and_eq_true] at h1;exact h1.2
  | some x=>rw [hs] at h1;exact h1
 ·rw [Al_if_pos (.inr ho)] at h1;cases hs:splitF nm with
  | none=>rw [hs] at h1;rcases ho with rfl | rfl <;> simp at h1
  | some x=>rfl
 ·cases hm:misB a with
  | false=>rfl
  | true=>rw [Al_List_any_eq_true.2 ⟨a,ha,hm⟩] at h2;cases h2
theorem trm_op {op:UInt8} {nm:Str} {n:Int64} {args:List Ex} (h:termB (.mk op nm n args)=true) :
 (op=1/\nm=[]/\0<=n.toInt/\args=[])\/(op=4/\nm=[]/\n=0/\args=[])\/((op=5\/op=8)/\n=0/\args=[])\/(op=6/\n=0/\∃ a,args=[a]/\termB a=true)\/(op=9/\nm=[]/\n=0/\∃ a,args=[a]/\termB a=true) \/
 (op∈([11,12,13,14,15]:List UInt8)/\nm=[]/\n=0/\∃ a b,args=[a,b]/\termB a=true/\termB b=true):=by
 rw [termB] at h
 split at h
 ·rename_i e;simp only [Al_Bool_and_eq_true,Al_decide_eq_true_eq] at h;exact .inl ⟨e,h.1.1,h.1.2,Al_List_eq_nil_of_length_eq_zero h.2⟩
 split at h
 ·rename_i e;simp only [Al_Bool_and_eq_true,Al_decide_eq_true_eq] at h;exact .inr (.inl ⟨e,h.1.1,h.1.2,Al_List_eq_nil_of_length_eq_zero h.2⟩)
 split at h
 ·rename_i e;simp only [Al_Bool_and_eq_true,Al_decide_eq_true_eq] at h;exact .inr (.inr (.inl ⟨e,h.1,Al_List_eq_nil_of_length_eq_zero h.2⟩))
 split at h
 ·rename_i e;simp only [Al_Bool_and_eq_true,Al_decide_eq_true_eq,termBs_all] at h;obtain ⟨a,rfl⟩:=args1 h.2.2;exact .inr (.inr (.inr (.inl ⟨e,h.1,a,Z,by simpa using h.2.1⟩)))
 split at h
 ·rename_i e;simp only [Al_Bool_and_eq_true,Al_decide_eq_true_eq,termBs_all] at h;obtain ⟨a,rfl⟩:=args1 h.2.2;exact .inr (.inr (.inr (.inr (.inl ⟨e,h.1.1,h.1.2,a,Z,by simpa using h.2.1⟩))))
 split at h
 ·rename_i e;simp only [Al_Bool_and_eq_true,Al_decide_eq_true_eq,termBs_all] at h;obtain ⟨a,b,rfl⟩:=args2 (l:=args) h.2.2;refine .inr (.inr (.inr (.inr (.inr ⟨?_,h.1.1,h.1.2,a,b,Z,?_⟩))))
  ·simpa using e
  ·simpa using h.2.1
 ·cases h
theorem lx_tm (e:Ex):termB e=true->misB e=false->LxN (tmT e) (tqT e):=by
 induction e using Ex.ind with
 | _ op nm n args ih =>
  intro h hm r ks hr hk;obtain ⟨m1,m2,m3⟩:=mis_op hm;rcases trm_op h with ⟨rfl,rfl,hn,rfl⟩ | ⟨rfl,rfl,rfl,rfl⟩ | ⟨ho,rfl,rfl⟩ | ⟨rfl,rfl,a,rfl,ha⟩ | ⟨rfl,rfl,rfl,a,rfl,ha⟩ | ⟨ho,rfl,rfl,a,b,rfl,ha,hb⟩
  ·exact lx_i64 hn (sep_dig hr) hk
  ·exact ⟨Lx.kw (w:=[110,111,119]) (by decide) hr hk,kw_hd (w:=[110,111,119]) (by decide)⟩
  ·rcases ho with rfl | rfl
   ·exact lx_nmQ (m1 (.inl Z)) r ks hr hk
   ·obtain ⟨k1,_⟩:=lx_nmQ (m1 (.inr (.inr Z))) r ks hr hk;exact ⟨Lx.kw (w:=[115,105,122,101]) (by decide) sp_sep (.sp k1),kw_hd (w:=[115,105,122,101]) (by decide)⟩
  ·obtain ⟨k1,k2⟩:=ih a (by simp) ha (m3 a (by simp)) (93::r) ((4,[93])::ks) bk_sep (.sy (by decide) hr.hd hk);obtain ⟨k3,k4⟩:=lx_nmQ (m1 (.inr (.inl Z))) (91::(tmT a++93::r)) ((4,[91])::(tqT a++(4,[93])::ks)) br_sep (.sy (by decide) k2 k1);have e1:tmT (.mk 6 nm 0 [a])++r=nm++(91::(tmT a++93::r)):=by rw [tm_mk];simp [tmOp]
   have e2:tqT (.mk 6 nm 0 [a])++ks=tqN nm++((4,[91])::(tqT a++(4,[93])::ks)):=by rw [tq_mk];simp [tqO,hdQ]
   rw [e1,e2];exact ⟨k3,k4⟩
  ·obtain ⟨k1,k2⟩:=lx_prQ (ih a (by simp) ha (m3 a (by simp))) (decide (tlv a.op<6)) r ks hr hk;exact ⟨.sy (c:=45) (by decide) k2 k1,hdB_cons (by decide)⟩
  ·have ho2:op=11\/op=12\/op=13\/op=14\/op=15:=by simpa using ho
   obtain ⟨k1,_⟩:=lx_prQ (ih b (by simp) hb (m3 b (by simp))) (decide (tlv b.op<tlv op+1)) r ks hr hk;have k2:=lx_sym (op:=op) (by rcases ho2 with rfl | rfl | rfl | rfl | rfl <;> decide) k1;obtain ⟨k3,k4⟩:=lx_prQ (ih a (by simp) ha (m3 a (by simp))) (decide (tlv a.op<tlv op)) _ _ sp_sep k2
   have e1:tmT (.mk op [] 0 [a,b])++r=prnT (decide (tlv a.op<tlv op)) (tmT a)++([32]++(symT op++([32]++(prnT (decide (tlv b.op<tlv op+1)) (tmT b)++r)))):=by
    rw [tmb ho2 (by simp) (by simp)];simp only [Al_List_append_assoc];rfl
   have e2:tqT (.mk op [] 0 [a,b])++ks=prQ (decide (tlv a.op<tlv op)) (tqT a)++(4,symT op)::(prQ (decide (tlv b.op<tlv op+1)) (tqT b)++ks):=by
    rw [tq_mk];rcases ho2 with rfl | rfl | rfl | rfl | rfl <;> simp [tqO,hdQ]
   rw [e1,e2];exact ⟨k3,k4⟩
def intQ (n:Int):List Kt:=if n<0 then [(4,[45]),(3,Lib.decDigits n.natAbs)] else [(3,Lib.itoa n)]
theorem lx_sgn {n:Int64} {k:List Kt} (hr:∀ d,r.head? = some d->digB d=false) (hk:Lx r k):Lx (Lib.itoa n.toInt++r) (intQ n.toInt++k)/\hdB (Lib.itoa n.toInt++r):=by
 unfold intQ
 by_cases h:n.toInt<0
 ·rw [Al_if_pos h,Lib.itoa,Al_if_pos h];have:=n.le_toInt;exact ⟨.sy (c:=45) (by decide) num_hd (.nd (by omega) hr hk),hdB_cons (by decide)⟩
 ·rw [Al_if_neg h];exact lx_i64 (by omega) hr hk
def winQ (f:Fm):List Kt:=if !(fsOf f.op).wn || decide (f.b.toInt<0) then [] else [(4,[91]),(3,Lib.itoa f.a.toInt),(4,[44]),(3,Lib.itoa f.b.toInt),(4,[93])]
def amoQ (f:Fm):List Kt:=(1,f.nm)::(2,[105,110])::(intQ f.a.toInt++(4,[46,46])::intQ f.b.toInt)
def joiQ:List (List Kt)->List Kt
 | []=>[]
 | [x]=>x
 | x::r=>x++(4,[44])::joiQ r
def fqO (f:Fm) (l:List (UInt8 × List Kt)):List Kt :=
 if f.op=3 then tqT (ex0 (exH f))++(4,symT (exH f).op)::tqT (ex1 (exH f))
 else if f.op=4 then [(1,f.nm),(4,[46]),(1,f.fd)]
 else if f.op=5 then (2,[104,97,115])::(1,f.nm)::(4,[46])::(1,f.fd)::(4,[91])::(tqT (exH f)++[(4,[93])])
 else if f.op=6 then [(2,[102,108,97,103]),(1,f.nm)]
 else if f.op=7 then (2,[97,114,114,105,118,101,115])::(1,f.nm)::(4,[46])::(1,f.fd)::(4,[40])::(joiQ (f.ex.map tqT)++[(4,[41])])
 else if f.op=8\/f.op=12\/f.op=13\/f.op=14 then (2,wordF f.op)::(winQ f++prQ (decide ((fsOf (hdQ l).1).lv<5)) (hdQ l).2)
 else if f.op=16\/f.op=17 then (2,wordF f.op)::(amoQ f++prQ (decide ((fsOf (hdQ l).1).lv<5)) (hdQ l).2)
 else if f.op=18 then (2,wordF f.op)::(amoQ f++(4,[40])::((hdQ l).2++(4,[41])::(4,[62,61])::tqT (exH f)))
 else if f.op=15\/f.op=9\/f.op=10\/f.op=11 then
  prQ (decide ((fsOf (hdQ l).1).lv<(fsOf f.op).lv)) (hdQ l).2++(2,wordF f.op)::(winQ f++prQ (decide ((fsOf (hdQ (l.drop 1)).1).lv<(fsOf f.op).lv+1)) (hdQ (l.drop 1)).2)
 else [(2,wordF f.op)]
mutual
def tqF:Fm->List Kt
 | .mk op nm fd a b ex args=>fqO (.mk op nm fd a b ex args) (tqFs args)
def tqFs:List Fm->List (UInt8 × List Kt)
 | []=>[]
 | f::r=>(f.op,tqF f)::tqFs r
end
theorem tqFs_map:∀ l,tqFs l=l.map λf=>(f.op,tqF f)
 | []=>rfl
 | e::r=>by rw [tqFs,tqFs_map r];rfl
variable {a:Int64}
theorem fq_mk {op:UInt8} {nm fd:Str} {b:Int64} {ex:List Ex} {args:List Fm} :tqF (.mk op nm fd a b ex args)=fqO (.mk op nm fd a b ex args) (args.map λf=>(f.op,tqF f)):=by rw [tqF,tqFs_map]
def bnW (a b:Int64):Prop:=(a=0/\b=-1)\/(0<=a.toInt/\a.toInt<=b.toInt/\b.toInt<=200)
inductive Fg7:Fm->Prop
 | tf {op:UInt8} (h:op=1\/op=2):Fg7 (.mk op [] [] 0 0 [] [])
 | cmp {o:UInt8} {x y:Ex} (h:o∈([16,17,18,19,20,21]:List UInt8)) (hx:termB x=true) (hy:termB y=true):Fg7 (.mk 3 [] [] 0 0 [.mk o [] 0 [x,y]] [])
 | var {nm fd:Str}:Fg7 (.mk 4 nm fd 0 0 [] [])
 | has {nm fd:Str} {x:Ex} (hx:termB x=true):Fg7 (.mk 5 nm fd 0 0 [x] [])
 | flg {nm:Str}:Fg7 (.mk 6 nm [] 0 0 [] [])
 | arr {nm fd:Str} {ex:List Ex} (hl:ex.length<=4) (hx:∀ x∈ex,x=zE\/termB x=true):Fg7 (.mk 7 nm fd 0 0 ex [])
 | un {op:UInt8} {g:Fm} (h:op=8\/op=12):Fg7 (.mk op [] [] 0 0 [] [g])
 | win {op:UInt8} {a b:Int64} {g:Fm} (h:op=13\/op=14) (hw:bnW a b):Fg7 (.mk op [] [] a b [] [g])
 | amo {op:UInt8} {nm:Str} {a b:Int64} {g:Fm} (h:op=16\/op=17) (ha:-1000000<=a.toInt) (hb:-1000000<=b.toInt):Fg7 (.mk op nm [] a b [] [g])
 | cnt {nm:Str} {a b n:Int64} {g:Fm} (ha:-1000000<=a.toInt) (hb:-1000000<=b.toInt) (hn:0<=n.toInt):Fg7 (.mk 18 nm [] a b [.mk 1 [] n []] [g])
 | bin {op:UInt8} {g h:Fm} (ho:op=9\/op=10\/op=11):Fg7 (.mk op [] [] 0 0 [] [g,h])
 | snc {a b:Int64} {g h:Fm} (hw:bnW a b):Fg7 (.mk 15 [] [] a b [] [g,h])
theorem op19 {op:UInt8} (h:op.toNat<=18):op∈([0,1,2,3,4,5,6,7,8,9,10,11,12,13,14,15,16,17,18]:List UInt8):=by
 revert h
 exact op_cases (q:=λop=>op.toNat<=18->op∈([0,1,2,3,4,5,6,7,8,9,10,11,12,13,14,15,16,17,18]:List UInt8)) (by decide +kernel) op
theorem op1621 {op:UInt8} (h:16<=op.toNat/\op.toNat<=21):op∈([16,17,18,19,20,21]:List UInt8):=by
 revert h
 exact op_cases (q:=λop=>16<=op.toNat/\op.toNat<=21->op∈([16,17,18,19,20,21]:List UInt8)) (by decide +kernel) op
theorem any_zE {e:Ex} (h:anyB e=true):e=zE:=by
 obtain ⟨op,nm,n,args⟩:=e;simp only [anyB,Al_Bool_and_eq_true,Al_decide_eq_true_eq] at h;obtain ⟨⟨⟨rfl,rfl⟩,rfl⟩,h⟩:=h;rw [Al_List_eq_nil_of_length_eq_zero h];rfl
theorem len1 {α:Type} {l:List α} (h:l.length=1):∃ a,l=[a]:=List.length_eq_one_iff.1 h
theorem len2 {α:Type} {l:List α} (h:l.length=2):∃ a b,l=[a,b]:=by
 match l,h with
 | [a,b],_=>exact ⟨a,b,Z⟩
theorem bn_of {op:UInt8} {nm fd:Str} {b:Int64} {ex:List Ex} {args:List Fm} (h:bndB (.mk op nm fd a b ex args)=true):(((fsOf op).wn=true/\bnW a b)\/((fsOf op).wn=false/\(fsOf op).am=true/\-1000000<=a.toInt/\-1000000<=b.toInt))\/((fsOf op).wn=false/\(fsOf op).am=false/\a=0/\b=0):=by
 replace h:(if (fsOf op).wn=true then (decide (a=0) && decide (b.toInt=-1)) || (decide (0<=a.toInt) && decide (a.toInt<=b.toInt) && decide (b.toInt<=200))
  else if (fsOf op).am=true then decide (-1000000<=a.toInt) && decide (a.toInt<=b.toInt) && decide (b.toInt<=1000000) && decide (b.toInt - a.toInt<32)
  else decide (a=0) && decide (b=0))=true:=h
 cases hw:(fsOf op).wn with
 | true =>
  rw [Al_if_pos hw] at h;simp only [Al_Bool_or_eq_true,Al_Bool_and_eq_true,Al_decide_eq_true_eq] at h;refine .inl (.inl ⟨Z,?_⟩);rcases h with h | h
  ·exact .inl ⟨h.1,Al_Int64_toInt_inj.1 h.2⟩
  ·exact .inr ⟨h.1.1,h.1.2,h.2⟩
 | false =>
  rw [Al_if_neg (by rw [hw];decide)] at h;cases ha:(fsOf op).am with
  | true =>
   rw [Al_if_pos ha] at h;simp only [Al_Bool_and_eq_true,Al_decide_eq_true_eq] at h;exact .inl (.inr ⟨Z,Z,by omega,by omega⟩)
  | false =>
   rw [Al_if_neg (by rw [ha];decide)] at h;simp only [Al_Bool_and_eq_true,Al_decide_eq_true_eq] at h;exact .inr ⟨Z,Z,h.1,h.2⟩
theorem cmp_of {e:Ex} (h:cmpB e=true):∃ o x y,e=.mk o [] 0 [x,y]/\o∈([16,17,18,19,20,21]:List UInt8)/\termB x=true/\termB y=true:=by
 obtain ⟨o,nm,n,args⟩:=e;simp only [cmpB,Al_Bool_and_eq_true,Al_decide_eq_true_eq,termBs_all] at h;obtain ⟨⟨⟨⟨h1,h2⟩,rfl⟩,rfl⟩,h3,h4⟩:=h;obtain ⟨x,y,rfl⟩:=len2 h4;have h3':termB x=true/\termB y=true:=by simpa using h3
 exact ⟨o,x,y,Z,op1621 ⟨h1,h2⟩,h3'.1,h3'.2⟩
theorem form_of {op:UInt8} {nm fd:Str} {b:Int64} {ex:List Ex} {args:List Fm} (h:formB (.mk op nm fd a b ex args)=true):Fg7 (.mk op nm fd a b ex args):=by
 have hop:=op19 (form_op h);have hB:=bn_of (form_parts h).2.2.2;have hE:=(form_parts h).2.2.1;have hA:=(form_parts h).2.1;have hL:=(form_parts h).1
 have hN:((fsOf op).nm=false->nm=[])/\((fsOf op).fd=false->fd=[]):=by
  unfold formB at h;rw [Al_Bool_and_eq_true,Al_Bool_and_eq_true,Al_Bool_and_eq_true,Al_Bool_and_eq_true,Al_Bool_and_eq_true,Al_Bool_or_eq_true,Al_Bool_or_eq_true] at h;exact ⟨λe=>Al_of_decide_eq_true (h.1.1.1.1.2.resolve_left (by show ¬ (fsOf op).nm=true;rw [e];decide)),λe=>Al_of_decide_eq_true (h.1.1.1.2.resolve_left (by show ¬ (fsOf op).fd=true;rw [e];decide))⟩
 clear h
 replace hE:(if op=7 then decide (ex.length<=4) && ex.all λe=>anyB e || termB e
  else decide (ex.length=(fsOf op).ex) && (if op=3 then cmpB (ex.headD (.mk 0 [] 0 [])) else if op=5 then termB (ex.headD (.mk 0 [] 0 []))
  else if op=18 then decide ((ex.headD (.mk 0 [] 0 [])).op=1) && termB (ex.headD (.mk 0 [] 0 [])) && decide ((ex.headD (.mk 0 [] 0 [])).n.toInt<=32) else true))=true:=hE
 have ab:(fsOf op).wn=false->(fsOf op).am=false->a=0/\b=0:=λh1 h2=>by
  rcases hB with (⟨e,_⟩ | ⟨_,e,_⟩) | ⟨_,_,e⟩
  ·rw [h1] at e;cases e
  ·rw [h2] at e;cases e
  ·exact e
 have aw:(fsOf op).wn=true->bnW a b:=λh1=>by
  rcases hB with (⟨_,e⟩ | ⟨e,_⟩) | ⟨e,_⟩
  ·exact e
  ·rw [h1] at e;cases e
  ·rw [h1] at e;cases e
 have am:(fsOf op).wn=false->(fsOf op).am=true->-1000000<=a.toInt/\-1000000<=b.toInt:=λh1 h2=>by
  rcases hB with (⟨e,_⟩ | ⟨_,_,e⟩) | ⟨_,e,_⟩
  ·rw [h1] at e;cases e
  ·exact e
  ·rw [h2] at e;cases e
 clear hB;simp only [Al_List_mem_cons,List.not_mem_nil,or_false] at hop
 have e0 {op:UInt8} (h7:¬ op=7) (h3:¬ op=3) (h5:¬ op=5) (h18:¬ op=18) (k:(fsOf op).ex=0) (hE:(if op=7 then decide (ex.length<=4) && ex.all λe=>anyB e || termB e
  else decide (ex.length=(fsOf op).ex) && (if op=3 then cmpB (ex.headD (.mk 0 [] 0 [])) else if op=5 then termB (ex.headD (.mk 0 [] 0 []))
  else if op=18 then decide ((ex.headD (.mk 0 [] 0 [])).op=1) && termB (ex.headD (.mk 0 [] 0 [])) && decide ((ex.headD (.mk 0 [] 0 [])).n.toInt<=32) else true))=true):ex=[]:=by
  rw [Al_if_neg h7,Al_if_neg h3,Al_if_neg h5,Al_if_neg h18,Al_Bool_and_true,Al_decide_eq_true_eq,k] at hE;exact Al_List_eq_nil_of_length_eq_zero hE
 rcases hop with rfl | rfl | rfl | rfl | rfl | rfl | rfl | rfl | rfl | rfl | rfl | rfl | rfl | rfl | rfl | rfl | rfl | rfl | rfl
 ·exact absurd rfl hL
 ·obtain ⟨rfl,rfl⟩:=ab rfl rfl;obtain rfl:=hN.1 rfl;obtain rfl:=hN.2 rfl;obtain rfl:=e0 (by decide) (by decide) (by decide) (by decide) rfl hE;obtain rfl:=Al_List_eq_nil_of_length_eq_zero hA;exact .tf (.inl Z)
 ·obtain ⟨rfl,rfl⟩:=ab rfl rfl;obtain rfl:=hN.1 rfl;obtain rfl:=hN.2 rfl;obtain rfl:=e0 (by decide) (by decide) (by decide) (by decide) rfl hE;obtain rfl:=Al_List_eq_nil_of_length_eq_zero hA;exact .tf (.inr Z)
 ·obtain ⟨rfl,rfl⟩:=ab rfl rfl;obtain rfl:=hN.1 rfl;obtain rfl:=hN.2 rfl;obtain rfl:=Al_List_eq_nil_of_length_eq_zero hA;rw [Al_if_neg (by decide),Al_if_pos rfl,Al_Bool_and_eq_true,Al_decide_eq_true_eq] at hE;obtain ⟨e,rfl⟩:=len1 hE.1;obtain ⟨o,x,y,rfl,h1,h2,h3⟩:=cmp_of hE.2;exact .cmp h1 h2 h3
 ·obtain ⟨rfl,rfl⟩:=ab rfl rfl;obtain rfl:=e0 (by decide) (by decide) (by decide) (by decide) rfl hE;obtain rfl:=Al_List_eq_nil_of_length_eq_zero hA;exact .var
 ·obtain ⟨rfl,rfl⟩:=ab rfl rfl;obtain rfl:=Al_List_eq_nil_of_length_eq_zero hA;rw [Al_if_neg (by decide),Al_if_neg (by decide),Al_if_pos rfl,Al_Bool_and_eq_true,Al_decide_eq_true_eq] at hE;obtain ⟨e,rfl⟩:=len1 hE.1;exact .has hE.2
 ·obtain ⟨rfl,rfl⟩:=ab rfl rfl;obtain rfl:=hN.2 rfl;obtain rfl:=e0 (by decide) (by decide) (by decide) (by decide) rfl hE;obtain rfl:=Al_List_eq_nil_of_length_eq_zero hA;exact .flg
 ·obtain ⟨rfl,rfl⟩:=ab rfl rfl;obtain rfl:=Al_List_eq_nil_of_length_eq_zero hA;rw [Al_if_pos rfl,Al_Bool_and_eq_true,Al_decide_eq_true_eq] at hE;refine .arr hE.1 λx hx=>?_;have:=Al_List_all_eq_true.1 hE.2 x hx;rw [Al_Bool_or_eq_true] at this;exact this.imp any_zE id
 ·obtain ⟨rfl,rfl⟩:=ab rfl rfl;obtain rfl:=hN.1 rfl;obtain rfl:=hN.2 rfl;obtain rfl:=e0 (by decide) (by decide) (by decide) (by decide) rfl hE;obtain ⟨g,rfl⟩:=len1 hA;exact .un (.inl Z)
 ·obtain ⟨rfl,rfl⟩:=ab rfl rfl;obtain rfl:=hN.1 rfl;obtain rfl:=hN.2 rfl;obtain rfl:=e0 (by decide) (by decide) (by decide) (by decide) rfl hE;obtain ⟨g,h,rfl⟩:=len2 hA;exact .bin (.inl Z)
 ·obtain ⟨rfl,rfl⟩:=ab rfl rfl;obtain rfl:=hN.1 rfl;obtain rfl:=hN.2 rfl;obtain rfl:=e0 (by decide) (by decide) (by decide) (by decide) rfl hE;obtain ⟨g,h,rfl⟩:=len2 hA;exact .bin (.inr (.inl Z))
 ·obtain ⟨rfl,rfl⟩:=ab rfl rfl;obtain rfl:=hN.1 rfl;obtain rfl:=hN.2 rfl;obtain rfl:=e0 (by decide) (by decide) (by decide) (by decide) rfl hE;obtain ⟨g,h,rfl⟩:=len2 hA;exact .bin (.inr (.inr Z))
 ·obtain ⟨rfl,rfl⟩:=ab rfl rfl;obtain rfl:=hN.1 rfl;obtain rfl:=hN.2 rfl;obtain rfl:=e0 (by decide) (by decide) (by decide) (by decide) rfl hE;obtain ⟨g,rfl⟩:=len1 hA;exact .un (.inr Z)
 ·obtain rfl:=hN.1 rfl;obtain rfl:=hN.2 rfl;obtain rfl:=e0 (by decide) (by decide) (by decide) (by decide) rfl hE;obtain ⟨g,rfl⟩:=len1 hA;exact .win (.inl Z) (aw Z)
 ·obtain rfl:=hN.1 rfl;obtain rfl:=hN.2 rfl;obtain rfl:=e0 (by decide) (by decide) (by decide) (by decide) rfl hE;obtain ⟨g,rfl⟩:=len1 hA;exact .win (.inr Z) (aw Z)
 ·obtain rfl:=hN.1 rfl;obtain rfl:=hN.2 rfl;obtain rfl:=e0 (by decide) (by decide) (by decide) (by decide) rfl hE;obtain ⟨g,h,rfl⟩:=len2 hA;exact .snc (aw Z)
 ·obtain rfl:=hN.2 rfl;obtain rfl:=e0 (by decide) (by decide) (by decide) (by decide) rfl hE;obtain ⟨g,rfl⟩:=len1 hA;exact .amo (.inl Z) (am Z Z).1 (am Z Z).2
 ·obtain rfl:=hN.2 rfl;obtain rfl:=e0 (by decide) (by decide) (by decide) (by decide) rfl hE;obtain ⟨g,rfl⟩:=len1 hA;exact .amo (.inr Z) (am Z Z).1 (am Z Z).2
 ·obtain rfl:=hN.2 rfl;obtain ⟨g,rfl⟩:=len1 hA;rw [Al_if_neg (by decide),Al_if_neg (by decide),Al_if_neg (by decide),Al_if_pos rfl,Al_Bool_and_eq_true,Al_decide_eq_true_eq] at hE;obtain ⟨e,rfl⟩:=len1 hE.1;have hE2:=hE.2;simp only [Al_List_headD_cons,Al_Bool_and_eq_true,Al_decide_eq_true_eq] at hE2;obtain ⟨o,m,n,al⟩:=e;obtain ⟨⟨ho,ht⟩,_⟩:=hE2;obtain rfl:o=1:=by first | exact ho | exact Al_of_decide_eq_true ho
  rcases trm_op ht with ⟨_,rfl,h3,rfl⟩ | ⟨k,_⟩ | ⟨k,_⟩ | ⟨k,_⟩ | ⟨k,_⟩ | ⟨k,_⟩
  ·exact .cnt (am Z Z).1 (am Z Z).2 h3
  ·cases k
  ·rcases k with k | k <;> cases k
  ·cases k
  ·cases k
  ·exact absurd k (by decide)
theorem namd_of {op:UInt8} {nm fd:Str} {b:Int64} {ex:List Ex} {args:List Fm} (h:namdB (.mk op nm fd a b ex args)=true):((fsOf op).nm=true->nameB nm=true)/\((fsOf op).fd=true->nameB fd=true)/\∀ e∈ex,misB e=false:=by
 replace h:(!((fsOf op).nm && !nameB nm || (fsOf op).fd && !nameB fd) && !misBs ex)=true:=h;simp only [Al_Bool_and_eq_true,Al_Bool_not_eq_true',Al_Bool_or_eq_false_iff,Al_Bool_and_eq_false_iff,Bool.not_eq_false'] at h;obtain ⟨⟨h1,h2⟩,h3⟩:=h;refine ⟨λe=>h1.resolve_left (by rw [e];decide),λe=>h2.resolve_left (by rw [e];decide),λe he=>?_⟩;rw [misBs_any] at h3;cases hm:misB e with
 | false=>rfl
 | true=>rw [Al_List_any_eq_true.2 ⟨e,he,hm⟩] at h3;cases h3
section
variable {l:Tks} {r r' r1 r2 ra:Rq} {w w':Str} {k:UInt8} {N x n:Fn} {m:Bool} {i j b:Nat}
def Sps (l:Tks):Rq->List Kt->Rq->Prop
 | r,[],r'=>r.er=0/\r'=r
 | r,x::ks,r'=>(r.er=0/\kt (tkf l r.i)=x)/\Sps l r.nx ks r'
theorem sps_er:∀ {ks:List Kt} {r r':Rq},Sps l r ks r'->r.er=0/\r'.er=0
 | [],_,_,⟨h,e⟩=>by subst e;exact ⟨h,h⟩
 | _::_,_,_,⟨h,h2⟩=>⟨h.1,(sps_er h2).2⟩
theorem sps_app:∀ {a b:List Kt} {r r':Rq},Sps l r (a++b) r'->∃ m,Sps l r a m/\Sps l m b r'
 | [],_,r,_,h=>⟨r,⟨(sps_er h).1,Z⟩,h⟩
 | _::_,_,_,_,⟨h,h2⟩=>by
  obtain ⟨m,p,q⟩:=sps_app h2;exact ⟨m,⟨h,p⟩,q⟩
theorem sps_of:∀ (ks:List Kt) (i:Nat),(∀ j (h:j<ks.length),kt (tkf l (i+j))=ks[j])->Sps l ⟨i,0,0⟩ ks ⟨i+ks.length,0,0⟩
 | [],_,_=>⟨Z,Z⟩
 | x::ks,i,h=>by
  refine ⟨⟨Z,h 0 (by simp)⟩,?_⟩
  have:=sps_of ks (i+1) λj hj=>by
   have:=h (j+1) (by simpa using hj);rw [show i+1+j=i+(j+1) by omega,this];rfl
  rw [Al_List_length_cons,show i+(ks.length+1)=i+1+ks.length by omega];exact this
theorem kt_k {t:Tk} (h:kt t=(k,w)):t.k=k:=congrArg Prod.fst h
theorem kt_t {t:Tk} (h:kt t=(k,w)):t.t=w:=congrArg Prod.snd h
theorem T_ac (h:r.er=0/\kt (tkf l r.i)=(k,w)) (hk:k=2\/k=4):r.ac l w=true:=by
 unfold Rq.ac Rq.is;rw [kt_k h.2,kt_t h.2,Al_decide_eq_true h.1];rcases hk with rfl | rfl <;> simp
theorem T_no (h:r.er=0/\kt (tkf l r.i)=(k,w)) (hn:¬ w=w'):r.ac l w'=false:=by
 unfold Rq.ac Rq.is;rw [kt_t h.2,Al_decide_eq_false hn,Bool.and_false,Bool.and_false]
theorem T_n1 (h:r.er=0/\kt (tkf l r.i)=(k,w)) (hn:k=1\/k=3):r.ac l w'=false:=k_ac (by rw [kt_k h.2];rcases hn with rfl | rfl <;> decide)
theorem T_ex (h:r.er=0/\kt (tkf l r.i)=(k,w)) (hk:k=2\/k=4):r.exS l w=r.nx:=ex_ac (T_ac h hk)
theorem T_nmS (h:r.er=0/\kt (tkf l r.i)=(1,w)):r.nmS l=r.nx:=nx_nm h.1 (kt_k h.2)
theorem T_nmV (h:r.er=0/\kt (tkf l r.i)=(1,w)):r.nmV l=w:=by rw [nm_val h.1 (kt_k h.2),kt_t h.2]
theorem T_nb {u:Nat} (h:r.er=0/\kt (tkf l r.i)=(3,Lib.decDigits u)) (hu:u<=9223372036854775807):r.nbS l=r.nx/\r.nbV l=Int64.ofNat u:=by
 have h1:r.nbB l=true:=by unfold Rq.nbB;rw [Al_decide_eq_true h.1,Al_decide_eq_true (kt_k h.2)];rfl
 have h2:r.fit l=true:=by unfold Rq.fit;rw [kt_t h.2,numV_digits];exact Al_decide_eq_true hu
 unfold Rq.nbS Rq.nbV;rw [Al_if_pos h1,Al_if_pos h2,h1,h2,kt_t h.2,numV_digits];exact ⟨Z,Z⟩
theorem ofN64 {n:Int64} (h:0<=n.toInt):Int64.ofNat n.toInt.toNat=n:=by
 have:=n.toInt_lt;exact Al_Int64_toInt_inj.1 (by rw [Al_Int64_toInt_ofNat_of_lt (by omega)];omega)
theorem T_nu {n:Int64} (h:r.er=0/\kt (tkf l r.i)=(3,Lib.itoa n.toInt)) (hn:0<=n.toInt):r.nbS l=r.nx/\r.nbV l=n:=by
 rw [Lib.itoa,Al_if_neg (by omega)] at h;have:=n.toInt_lt;have:=T_nb h (by omega);rw [ofN64 hn] at this;exact this
def fstW:List Str:=[[91],[41],[95]]
def preWs:List Str:=[[110,111,116],[112,114,101,118,105,111,117,115],[111,110,99,101],[97,108,119,97,121,115],[102,111,114,97,108,108],[101,120,105,115,116,115],[99,111,117,110,116]]
theorem acs_ne {L:List Str} (h:r.ac l w=true) (hn:∀ x∈L,w≠x):∀ x∈L,r.ac l x=false:=λx hx=>acF_ne h (hn x hx)
theorem gd_first {nt:Nt} (g:Gd l nt r n m r'):∀ k,nt=.lev k->r'.er=0->(∀ x∈fstW,r.ac l x=false)/\(6<=k->∀ x∈preWs,r.ac l x=false)/\(k=10->r.ac l [45]=false):=by
 have b0:∀ {nt:Nt} {r r':Rq} {n:Fn} {m:Bool},Gd l nt r n m r'->r'.er=0->r.er=0:=λg e=>Classical.byContradiction λh=>h (by rw [<-gd_er g h];exact e);induction g with
 | seq hk h1 h2 i1 i2 =>
  rintro k' e e2;cases e;obtain ⟨a,b,_⟩:=i1 _ rfl (b0 h2 e2);exact ⟨a,λh=>b (by omega),λh=>by omega⟩
 | outJ=>rintro _ e _;cases e
 | outA=>rintro _ e _;cases e
 | join=>rintro _ e _;cases e
 | ari=>rintro _ e _;cases e
 | @pre w op r r1 x m hp h h1 =>
  rintro k' e e2;cases e;refine ⟨acs_ne h ?_,λh=>by omega,λh=>by omega⟩;have:∀ p∈preW,∀ x∈fstW,p.1≠x:=by decide
  exact this _ hp
 | cnt h =>
  rintro k' e e2;cases e;exact ⟨acs_ne h (by decide),λh=>by omega,λh=>by omega⟩
 | cmp0 hp hc h1 i1 =>
  rintro k' e e2;cases e;exact ⟨(i1 _ rfl e2).1,λh=>by omega,λh=>by omega⟩
 | cm0 h1 h i1 =>
  rintro k' e e2;cases e;exact ⟨(i1 _ rfl e2).1,λ_=>(i1 _ rfl e2).2.1 (by decide),λh=>by omega⟩
 | cm1 hi h1 h h2 i1 i2 =>
  rintro k' e e2;cases e;have e1:=acF_er h;exact ⟨(i1 _ rfl e1).1,λ_=>(i1 _ rfl e1).2.1 (by decide),λh=>by omega⟩
 | neg h =>
  rintro k' e e2;cases e;exact ⟨acs_ne h (by decide),λ_=>acs_ne h (by decide),λh=>by omega⟩
 | pri h h1 i1 =>
  rintro k' e e2;cases e;exact ⟨(i1 _ rfl e2).1,λ_=>(i1 _ rfl e2).2.1 (by decide),λh=>by omega⟩
 | bad h=>rintro k' e e2;exact absurd e2 h
 | num h hk =>
  rintro k' e e2;have:=λw=>k_ac (l:=l) (w:=w) (by rw [hk];decide);exact ⟨λx _=>this x,λ_ x _=>this x,λ_=>this _⟩
 | now h=>rintro k' e e2;exact ⟨acs_ne h (by decide),λ_=>acs_ne h (by decide),λ_=>acF_ne h (by decide)⟩
 | tru h=>rintro k' e e2;exact ⟨acs_ne h (by decide),λ_=>acs_ne h (by decide),λ_=>acF_ne h (by decide)⟩
 | fal h=>rintro k' e e2;exact ⟨acs_ne h (by decide),λ_=>acs_ne h (by decide),λ_=>acF_ne h (by decide)⟩
 | flg h=>rintro k' e e2;exact ⟨acs_ne h (by decide),λ_=>acs_ne h (by decide),λ_=>acF_ne h (by decide)⟩
 | has h=>rintro k' e e2;exact ⟨acs_ne h (by decide),λ_=>acs_ne h (by decide),λ_=>acF_ne h (by decide)⟩
 | arr0 h=>rintro k' e e2;exact ⟨acs_ne h (by decide),λ_=>acs_ne h (by decide),λ_=>acF_ne h (by decide)⟩
 | arr h=>rintro k' e e2;exact ⟨acs_ne h (by decide),λ_=>acs_ne h (by decide),λ_=>acF_ne h (by decide)⟩
 | siz h=>rintro k' e e2;exact ⟨acs_ne h (by decide),λ_=>acs_ne h (by decide),λ_=>acF_ne h (by decide)⟩
 | par h=>rintro k' e e2;exact ⟨acs_ne h (by decide),λ_=>acs_ne h (by decide),λ_=>acF_ne h (by decide)⟩
 | nam0 h hk =>
  rintro k' e e2;have:=λw=>k_ac (l:=l) (w:=w) (by rw [hk];decide);exact ⟨λx _=>this x,λ_ x _=>this x,λ_=>this _⟩
 | nam1 h hk =>
  rintro k' e e2;have:=λw=>k_ac (l:=l) (w:=w) (by rw [hk];decide);exact ⟨λx _=>this x,λ_ x _=>this x,λ_=>this _⟩
 | get h hk =>
  rintro k' e e2;have:=λw=>k_ac (l:=l) (w:=w) (by rw [hk];decide);exact ⟨λx _=>this x,λ_ x _=>this x,λ_=>this _⟩
 | non=>rintro k' e e2;exact absurd e2 (fail_er (by decide))
 | arU=>rintro _ e _;cases e
 | arT=>rintro _ e _;cases e
 | afC=>rintro _ e _;cases e
 | afE=>rintro _ e _;cases e
def cuL:List (Nat × Str):=[(20,[46]),(20,[91]),(1,[105,109,112,108,105,101,115]),(2,[111,114]),(3,[97,110,100]),(4,[115,105,110,99,101]),(6,[61,61]),(6,[33,61]),(6,[60]),(6,[60,61]),(6,[62]),(6,[62,61]),(7,[43]),(7,[45]),(8,[42]),(8,[47]),(8,[37])]
def Nx (l:Tks) (k:Nat) (r:Rq):Prop:=∀ x∈cuL,k<=x.1->r.ac l x.2=false
theorem Nx.up (h:Nx l i r) (hj:i<=j):Nx l j r:=λx hx hk=>h x hx (Al_Nat_le_trans hj hk)
theorem Nx.n9 (h:Nx l 10 r):Nx l 9 r:=λx hx hk=>h x hx ((show ∀ x∈cuL,9<=x.1->10<=x.1 by decide) x hx hk)
theorem Nx.n5 (h:Nx l 6 r):Nx l 5 r:=λx hx hk=>h x hx ((show ∀ x∈cuL,5<=x.1->6<=x.1 by decide) x hx hk)
theorem Nx.tok (h:r.er=0/\kt (tkf l r.i)=(k,w)) (hn:∀ x∈cuL,j<=x.1->¬ w=x.2):Nx l j r:=λx hx hk=>T_no h (hn x hx hk)
theorem Nx.fin (h:(tkf l r.i).k=0):Nx l j r:=λx _ _=>k_ac (by rw [h];decide)
theorem Nx.dot (h:Nx l j r) (hj:j<=20):r.ac l [46]=false:=h (20,[46]) (by decide) hj
theorem Nx.brk (h:Nx l j r) (hj:j<=20):r.ac l [91]=false:=h (20,[91]) (by decide) hj
def lpB (j:Nat):Prop:=(1<=j/\j<=4)\/j=7\/j=8
theorem jo_mem (h:1<=j/\j<=4):(j,joW j)∈cuL:=by
 have:j=1\/j=2\/j=3\/j=4:=by omega
 rcases this with rfl | rfl | rfl | rfl <;> decide
theorem ari_mem (h:ariK j i):(j,fsyms.getD i [])∈cuL:=by
 rcases h with ⟨rfl,rfl | rfl⟩ | ⟨rfl,rfl | rfl | rfl⟩ <;> decide
theorem cmp_mem (h:16<=i) (h2:i<=21):(6,fsyms.getD i [])∈cuL:=by
 have:i=16\/i=17\/i=18\/i=19\/i=20\/i=21:=by omega
 rcases this with rfl | rfl | rfl | rfl | rfl | rfl <;> decide
def Rl (l:Tks) (j:Nat) (r:Rq) (N:Fn) (r':Rq):Prop:=(lpB j->∀ n m r2,Gd l (.lp j N) r' n m r2->Gd l (.lev j) r n m r2)/\(¬ lpB j->Gd l (.lev j) r N false r')
theorem Rl.full (h:Rl l j r N r') (hx:Nx l j r'):Gd l (.lev j) r N false r':=by
 by_cases hj:lpB j
 ·refine h.1 hj _ _ _ ?_;rcases hj with hj | hj
  ·exact .outJ hj (hx _ (jo_mem hj) (Al_Nat_le_refl _))
  ·exact .outA hj λi hi=>hx _ (ari_mem hi) (Al_Nat_le_refl _)
 ·exact h.2 hj
theorem Rl.of10 (h:Gd l (.lev 10) r N false r'):Rl l 10 r N r':=⟨λe=>by unfold lpB at e;omega,λ_=>h⟩
theorem Rl.dn (h:Gd l (.lev (j+1)) r N false r') (e:r'.er=0) (hj:1<=j/\j<=9) (hx:j=6->Nx l 6 r'):Rl l j r N r':=by
 refine ⟨λhl n m r2 g=>?_,λhl=>?_⟩
 ·exact Gd.seq hl h g
 ·obtain ⟨f1,f2,f3⟩:=gd_first h _ rfl e;have:j=5\/j=6\/j=9:=by unfold lpB at hl;omega
  rcases this with rfl | rfl | rfl
  ·have f2:=f2 (by decide);refine .cmp0 (λw op hw=>f2 w ?_) (f2 _ (by decide)) h;have:∀ p∈preW,p.1∈preWs:=by decide
   exact this _ hw
  ·exact .cm0 h λi h1 h2=>hx Z _ (cmp_mem h1 h2) (Al_Nat_le_refl _)
  ·exact .pri (f3 Z) h
theorem Rl.go:∀ {d j:Nat},Rl l (j+d) r N r'->r'.er=0->1<=j->j+d<=10->Nx l (j+1) r'->(j<=6->Nx l 6 r')->Rl l j r N r'
 | 0,_,h,_,_,_,_,_=>h
 | d+1,j,h,e,h1,hb,hx,h6=>by
  have k:=Rl.go (j:=j+1) (d:=d) (by rw [show j+1+d=j+(d+1) by omega];exact h) e (by omega) (by omega) (hx.up (by omega)) (λhj=>h6 (by omega));exact .dn (k.full hx) e ⟨h1,by omega⟩ (λe=>h6 (by omega))
theorem Rl.to (h:Rl l b r N r') (e:r'.er=0) (h1:1<=j) (hj:j<=b) (hb:b<=10) (hx:Nx l (j+1) r') (h6:j<=6->Nx l 6 r'):Rl l j r N r':=by
 obtain ⟨d,rfl⟩:∃ d,b=j+d:=⟨b - j,by omega⟩;exact h.go e h1 hb hx h6
theorem Rl.at (h:Rl l b r N r') (e:r'.er=0) (h1:1<=j) (hj:j<=b) (hb:b<=10) (hx:Nx l j r'):Gd l (.lev j) r N false r':=(h.to e h1 hj hb (hx.up (by omega)) (λk=>hx.up k)).full hx
theorem par_rl {ks:List Kt} (h:Sps l r ((4,[40])::(ks++[(4,[41])])) r') (hg:∀ m,Sps l r.nx ks m->Nx l 1 m->Gd l (.lev 1) r.nx N false m):Rl l 10 r N r':=by
 obtain ⟨t0,h⟩:=h;obtain ⟨m,h1,t1,e,rfl⟩:=sps_app h;have g:=Gd.par (T_ac t0 (.inr Z)) (hg m h1 (.tok t1 (by decide)));have e1:m.exS l [41]=m.nx:=T_ex t1 (.inr Z);rw [e1] at g;exact .of10 g
end
section
variable {l:Tks} {r r' ra m:Rq} {w w':Str} {i j:Nat}
def ndE (e:Ex):Fn:=if e.op=5 then (match splitF e.nm with | some (a,b)=>⟨true,true,.mk 4 a b 0 0 [] [],e⟩ | none=>vlN e) else vlN e
theorem ndE_e (e:Ex):(ndE e).e=e/\(ndE e).tm=true:=by
 unfold ndE
 split
 ·cases splitF e.nm <;> exact ⟨Z,Z⟩
 ·exact ⟨Z,Z⟩
theorem ndE_no {op:UInt8} {nm:Str} {n:Int64} {args:List Ex} (h:¬ op=5):ndE (.mk op nm n args)=vlN (.mk op nm n args):=Al_if_neg h
def Td (l:Tks) (e:Ex):Prop:=∀ r r',Sps l r (tqT e) r'->Nx l (tlv e.op+4) r'->Rl l (tlv e.op+3) r (ndE e) r'
theorem tlv_ge (op:UInt8):4<=tlv op:=by
 unfold tlv
 split
 ·omega
 split
 ·omega
 split <;> omega
theorem td_opnd {a:Ex} (h:Td l a) {b:Bool} (hj:7<=j/\j<=9) (hb:b=false->j<=tlv a.op+3) (s:Sps l r (prQ b (tqT a)) r') (hx:Nx l (j+1) r'):Rl l j r (ndE a) r':=by
 have e:=(sps_er s).2;have h1:=tlv_ge a.op;have h2:=tlv_le a.op;cases b with
 | true =>
  have:=par_rl (N:=ndE a) (show Sps l r ((4,[40])::(tqT a++[(4,[41])])) r' from s) λm sm hm=>(h _ _ sm (hm.up (by omega))).at (sps_er sm).2 (Al_Nat_le_refl _) (by omega) (by omega) hm;exact this.to e (by omega) (by omega) (Al_Nat_le_refl _) hx (λk=>by omega)
 | false =>
  have:=hb rfl;exact (h _ _ s (hx.up (by omega))).to e (by omega) this (by omega) hx (λk=>by omega)
theorem decF {p q:Prop} [Decidable p] (h:¬ p->q) (e:decide p=false):q:=h (Al_of_decide_eq_false e)
theorem ful_of {a b:Str} (t0:r.er=0/\kt (tkf l r.i)=(1,a)) (t2:r.nx.nx.er=0/\kt (tkf l r.nx.nx.i)=(1,b)):r.ful l=a++([46]:Str)++b:=by
 unfold Rq.ful;rw [T_nmS t0,T_nmV t0,T_nmV t2]
theorem nm_td {nm:Str} (s:Sps l r (tqN nm) r') (hx:Nx l 11 r'):Gd l (.lev 10) r (ndE (.mk 5 nm 0 [])) false r':=by
 unfold tqN at s;unfold ndE;rw [Al_if_pos (show (Ex.mk 5 nm 0 []).op=5 from rfl)];show Gd l (.lev 10) r (match splitF nm with | some (a,b)=>⟨true,true,.mk 4 a b 0 0 [] [],.mk 5 nm 0 []⟩ | none=>vlN (.mk 5 nm 0 [])) false r';cases hs:splitF nm with
 | none =>
  rw [hs] at s;obtain ⟨t0,e,rfl⟩:=s;have g:=Gd.nam0 t0.1 (kt_k t0.2) (hx.dot (by omega));rw [T_nmV t0] at g;exact g
 | some x =>
  obtain ⟨a,b⟩:=x;rw [hs] at s;obtain ⟨t0,t1,t2,e,rfl⟩:=s;have e2:r.nx.nx.nmS l=r.nx.nx.nx:=T_nmS t2;have g:=Gd.nam1 t0.1 (kt_k t0.2) (T_ac t1 (.inr Z)) (by rw [e2];exact hx.brk (by omega));rw [e2,T_nmV t0,T_nmV t2,ful_of t0 t2,<-splitF_back hs] at g;exact g
theorem pa_of {a b:Str} (t0:r.er=0/\kt (tkf l r.i)=(1,a)) (t1:r.nx.er=0/\kt (tkf l r.nx.i)=(4,[46])) (t2:r.nx.nx.er=0/\kt (tkf l r.nx.nx.i)=(1,b)):r.paS l=r.nx.nx.nx/\r.paN l=a/\r.paF l=b:=by
 unfold Rq.paS Rq.paN Rq.paF;rw [T_nmS t0,T_nmV t0,T_ex t1 (.inr Z),T_nmS t2,T_nmV t2];exact ⟨Z,Z,Z⟩
theorem td_all (e:Ex):termB e=true->misB e=false->Td l e:=by
 induction e using Ex.ind with
 | _ op nm n args ih =>
  intro h hm r r' s hx;obtain ⟨m1,m2,m3⟩:=mis_op hm;rw [tq_mk] at s;rcases trm_op h with ⟨rfl,rfl,hn,rfl⟩ | ⟨rfl,rfl,rfl,rfl⟩ | ⟨ho,rfl,rfl⟩ | ⟨rfl,rfl,a,rfl,ha⟩ | ⟨rfl,rfl,rfl,a,rfl,ha⟩ | ⟨ho,rfl,rfl,a,b,rfl,ha,hb⟩
  ·obtain ⟨t0,e,rfl⟩:=s;have g:=Gd.num t0.1 (kt_k t0.2);have h1:=T_nu t0 hn;rw [h1.1,h1.2] at g;exact .of10 g
  ·obtain ⟨t0,e,rfl⟩:=s;exact .of10 (Gd.now (T_ac t0 (.inl Z)))
  ·rcases ho with rfl | rfl
   ·exact .of10 (nm_td s hx)
   ·have hS:=m2 (.inr Z);obtain ⟨t0,s⟩:=(show Sps l r ((2,[115,105,122,101])::tqN nm) r' from s);unfold tqN at s;cases hs:splitF nm with
    | none=>rw [hs] at hS;cases hS
    | some x =>
     obtain ⟨a,b⟩:=x;rw [hs] at s;obtain ⟨t1,t2,t3,e,rfl⟩:=s;have g:=Gd.siz (T_ac t0 (.inl Z));obtain ⟨p1,p2,p3⟩:=pa_of t1 t2 t3;rw [p1,p2,p3] at g;have e3:=splitF_back hs;rw [<-e3] at g;exact .of10 g
  ·have hS:=m2 (.inl Z);obtain ⟨m,s0,s⟩:=sps_app (show Sps l r (tqN nm++((4,[91])::(tqT a++[(4,[93])]))) r' from s);obtain ⟨t3,s⟩:=s;obtain ⟨m',s1,t4,e,rfl⟩:=sps_app s;unfold tqN at s0;cases hs:splitF nm with
   | none=>rw [hs] at hS;cases hS
   | some x =>
    obtain ⟨p,q⟩:=x;rw [hs] at s0;obtain ⟨t0,t1,t2,e0,rfl⟩:=s0;have e2:r.nx.nx.nmS l=r.nx.nx.nx:=T_nmS t2;have hx7:Nx l 7 m':=.tok t4 (by decide);have g1:=(ih a (by simp) ha (m3 a (by simp)) _ _ s1 (hx7.up (by have:=tlv_ge a.op;omega))).at (sps_er s1).2 (by omega) (show 7<=tlv a.op+3 by have:=tlv_ge a.op;omega) (by have:=tlv_le a.op;omega) hx7;have g:=Gd.get t0.1 (kt_k t0.2) (T_ac t1 (.inr Z)) (by rw [e2];exact T_ac t3 (.inr Z)) (by rw [e2];exact g1);rw [ful_of t0 t2,(ndE_e a).1,(ndE_e a).2,T_ex t4 (.inr Z)] at g;rw [<-splitF_back hs] at g;exact .of10 g
  ·obtain ⟨t0,s⟩:=(show Sps l r ((4,[45])::prQ (decide (tlv a.op<6)) (tqT a)) r' from s);have g1:=(td_opnd (j:=9) (ih a (by simp) ha (m3 a (by simp))) (by decide) (decF (by omega)) s hx).full (Nx.n9 hx);have g:=Gd.neg (T_ac t0 (.inr Z)) g1;rw [(ndE_e a).1,(ndE_e a).2] at g;exact ⟨λe=>absurd (show lpB 9 from e) (by unfold lpB;decide),λ_=>g⟩
  ·have ho2:op=11\/op=12\/op=13\/op=14\/op=15:=by simpa using ho
   have e1:tqO op [] 0 ([a,b].map λe=>(e.op,tqT e))=prQ (decide (tlv a.op<tlv op)) (tqT a)++(4,symT op)::prQ (decide (tlv b.op<tlv op+1)) (tqT b):=by
    rcases ho2 with rfl | rfl | rfl | rfl | rfl <;> rfl
   rw [e1] at s;obtain ⟨ra,sa,t0,sb⟩:=sps_app s;have hlv:tlv op=4\/tlv op=5:=by rcases ho2 with rfl | rfl | rfl | rfl | rfl <;> decide
   have hxa:Nx l (tlv op+3+1) ra:=.tok t0 (by rcases ho2 with rfl | rfl | rfl | rfl | rfl <;> decide);have A:=td_opnd (j:=tlv op+3) (ih a (by simp) ha (m3 a (by simp))) (by omega) (decF (by omega)) sa hxa;have B:=(td_opnd (j:=tlv op+3+1) (ih b (by simp) hb (m3 b (by simp))) (by omega) (decF (by omega)) sb (hx.up (Nat.le_succ _))).full hx;have hl:lpB (tlv op+3):=by unfold lpB;omega
   have hk:ariK (tlv op+3) op.toNat:=by unfold ariK;rcases ho2 with rfl | rfl | rfl | rfl | rfl <;> decide
   refine ⟨λ_ n m r2 g=>?_,λe=>absurd hl e⟩;have hy:ra.ac l (fsyms.getD op.toNat [])=true:=T_ac t0 (.inr Z)
   have g':Gd l (.lp (tlv op+3) (vlN (opB op.toNat [(ndE a).e,(ndE b).e]))) r' n m r2:=by
    rw [(ndE_e a).1,(ndE_e b).1];unfold opB;rw [Al_UInt8_ofNat_toNat];rw [ndE_no (by rcases ho2 with rfl | rfl | rfl | rfl | rfl <;> decide)] at g;exact g
   have G:=Gd.ari hk hy B g';rw [(ndE_e a).2,(ndE_e b).2] at G;exact A.1 hl _ _ _ G
end
theorem word_kw:∀ op∈([1,2,8,9,10,11,12,13,14,15,16,17,18]:List UInt8),wordF op∈words:=by decide +kernel
theorem op1121 {o:UInt8} (h:o∈([16,17,18,19,20,21]:List UInt8)):o∈([11,12,13,14,15,16,17,18,19,20,21]:List UInt8):=by
 simp only [Al_List_mem_cons,List.not_mem_nil,or_false] at h;rcases h with rfl | rfl | rfl | rfl | rfl | rfl <;> decide
variable {ks:List Kt}
theorem LxN.app {q:List Kt} (h:LxN s q) (hr:sepB r) (hk:Lx r ks):Lx (s++r) (q++ks):=(h r ks hr hk).1
theorem lx_win {op:UInt8} {b:Int64} {g:List Fm} (hw:bnW a b) (hr:sepB r) (hk:Lx r ks) :
 Lx (winT (.mk op [] [] a b [] g)++r) (winQ (.mk op [] [] a b [] g)++ks)/\sepB (winT (.mk op [] [] a b [] g)++r):=by
 unfold winT winQ
 split
 ·exact ⟨hk,hr⟩
 ·rename_i h;simp only [Al_Bool_or_eq_true,Al_decide_eq_true_eq,Al_not_or,Fm.b] at h
  have hab:0<=a.toInt/\0<=b.toInt:=by
   rcases hw with ⟨rfl,rfl⟩ | hw
   ·exact absurd (Al_decide_eq_true (by decide)) h.2
   ·omega
  simp only [Al_List_append_assoc,Al_List_cons_append,Al_List_nil_append,Fm.a,Fm.b];obtain ⟨k1,_⟩:=lx_i64 (n:=b) hab.2 (r:=93::r) (k:=(4,[93])::ks) (sep_dig bk_sep) (.sy (by decide) hr.hd hk);obtain ⟨k2,k3⟩:=lx_i64 (n:=a) hab.1 (r:=44::32::(Lib.itoa b.toInt++93::r)) (sep_dig (sepB_cons (by decide))) (.sy (c:=44) (by decide) sp_sep.hd (.sp k1));exact ⟨.sy (by decide) k3 k2,br_sep⟩
theorem lx_amo {op:UInt8} {nm:Str} {b:Int64} {ex:List Ex} {g:List Fm} (hn:nameB nm=true) (hr:sepB r) (hk:Lx r ks) :
 Lx (amoT (.mk op nm [] a b ex g)++r) (amoQ (.mk op nm [] a b ex g)++ks)/\sepB (amoT (.mk op nm [] a b ex g)++r):=by
 unfold amoT amoQ;simp only [Al_List_append_assoc,Al_List_cons_append,Al_List_nil_append,Fm.a,Fm.b,Fm.nm];obtain ⟨k1,_⟩:=lx_sgn (n:=b) (sep_dig hr) hk;have k2:Lx (46::46::(Lib.itoa b.toInt++r)) ((4,[46,46])::(intQ b.toInt++ks)):=.tok (x:=(4,[46,46])) tok_dd k1;obtain ⟨k3,_⟩:=lx_sgn (n:=a) (λd e=>by cases e;decide) k2;exact ⟨.sp (.nm hn sp_sep (.sp (.kw (w:=[105,110]) (by decide) sp_sep (.sp k3)))),sp_sep⟩
theorem lx_any (hk:Lx r ks):Lx (tmT zE++r) (tqT zE++ks)/\hdB (tmT zE++r):=⟨.tok (x:=(4,[95])) tok_us hk,hdB_cons (by decide)⟩
theorem lx_joi:∀ {l:List Ex},(∀ x∈l,(x=zE\/termB x=true)/\misB x=false)->∀ {r:Str} {ks:List Kt},sepB r->Lx r ks->Lx (joiT [44,32] (l.map tmT)++r) (joiQ (l.map tqT)++ks)/\hdB (joiT [44,32] (l.map tmT)++r)
 | [],_,r,ks,hr,hk=>⟨hk,hr.hd⟩
 | [x],h,r,ks,hr,hk=>by
  obtain ⟨h1,h2⟩:=h x (by simp);rcases h1 with rfl | h1
  ·exact lx_any hk
  ·exact lx_tm x h1 h2 r ks hr hk
 | x::y::l,h,r,ks,hr,hk=>by
  obtain ⟨k1,_⟩:=lx_joi (l:=y::l) (λz hz=>h z (Al_List_mem_cons_of_mem _ hz)) hr hk;have k2:Lx (44::32::(joiT [44,32] ((y::l).map tmT)++r)) ((4,[44])::(joiQ ((y::l).map tqT)++ks)):=.sy (by decide) sp_sep.hd (.sp k1)
  have e1:joiT [44,32] ((x::y::l).map tmT)++r=tmT x++44::32::(joiT [44,32] ((y::l).map tmT)++r):=by
   show (tmT x++[44,32]++joiT [44,32] ((y::l).map tmT))++r=_;simp only [Al_List_append_assoc,Al_List_cons_append,Al_List_nil_append]
  have e2:joiQ ((x::y::l).map tqT)++ks=tqT x++(4,[44])::(joiQ ((y::l).map tqT)++ks):=by
   show (tqT x++(4,[44])::joiQ ((y::l).map tqT))++ks=_;simp only [Al_List_append_assoc,Al_List_cons_append]
  rw [e1,e2];obtain ⟨h1,h2⟩:=h x (by simp);rcases h1 with rfl | h1
  ·exact lx_any k2
  ·exact lx_tm x h1 h2 _ _ (sepB_cons (by decide)) k2
theorem lx_fm (f:Fm):Fm.all formB f=true->Fm.all namdB f=true->LxN (fmT f) (tqF f):=by
 induction f using Fm.ind with
 | _ op nm fd a b ex args ih =>
  intro hf hn r ks hr hk;obtain ⟨hf,hfs⟩:=form_all hf;rw [fm_allL,Al_Bool_and_eq_true,Al_List_all_eq_true] at hn;obtain ⟨hn,hns⟩:=hn;obtain ⟨n1,n2,n3⟩:=namd_of hn;have ih':∀ g∈args,LxN (fmT g) (tqF g):=λg hg=>ih g hg (hfs g hg) (hns g hg);have hg:=form_of hf;clear ih hfs hns hf hn;generalize e:Fm.mk op nm fd a b ex args=f at hg|-;cases hg with
  | @tf op' h =>
   cases e;rcases h with rfl | rfl
   ·exact ⟨Lx.kw (w:=[116,114,117,101]) (by decide) hr hk,kw_hd (w:=[116,114,117,101]) (by decide)⟩
   ·exact ⟨Lx.kw (w:=[102,97,108,115,101]) (by decide) hr hk,kw_hd (w:=[102,97,108,115,101]) (by decide)⟩
  | @cmp o x y h hx hy =>
   cases e;have hm:=n3 _ (Al_List_mem_singleton.2 rfl);have m3:=(mis_op hm).2.2;obtain ⟨k1,_⟩:=lx_tm y hy (m3 y (by simp)) r ks hr hk;have k2:=lx_sym (op:=o) (op1121 h) k1;obtain ⟨k3,k4⟩:=lx_tm x hx (m3 x (by simp)) _ _ sp_sep k2
   have e1:fmT (.mk 3 [] [] 0 0 [.mk o [] 0 [x,y]] [])++r=tmT x++([32]++(symT o++([32]++(tmT y++r)))):=by
    rw [fx3 (args0:=[x,y]) rfl rfl (by simp) (by simp)];simp only [Al_List_append_assoc];rfl
   have e2:tqF (.mk 3 [] [] 0 0 [.mk o [] 0 [x,y]] [])++ks=tqT x++(4,symT o)::(tqT y++ks):=by
    rw [fq_mk];show (tqT x++(4,symT o)::tqT y)++ks=_;simp only [Al_List_append_assoc,Al_List_cons_append]
   rw [e1,e2];exact ⟨k3,k4⟩
  | var =>
   cases e;have e1:fmT (.mk 4 nm fd 0 0 [] [])++r=nm++46::(fd++r):=by rw [fx4 rfl];simp
   rw [e1];exact ⟨.nw (n1 rfl) (λc e=>by cases e;decide) (.sy (by decide) (name_hd (n2 rfl)) (.nm (n2 rfl) hr hk)),name_hd (n1 rfl)⟩
  | @has nm' fd' x hx =>
   cases e;obtain ⟨k1,k2⟩:=lx_tm x hx (n3 x (by simp)) (93::r) ((4,[93])::ks) bk_sep (.sy (by decide) hr.hd hk)
   have e1:fmT (.mk 5 nm fd 0 0 [x] [])++r=[104,97,115]++32::(nm++46::(fd++91::(tmT x++93::r))):=by
    rw [fx5 rfl rfl];show ([104,97,115]++[32]++nm++[46]++fd++[91]++tmT x++[93]:Str)++r=_;simp only [Al_List_append_assoc,Al_List_cons_append,Al_List_nil_append]
   have e2:tqF (.mk 5 nm fd 0 0 [x] [])++ks=(2,[104,97,115])::(1,nm)::(4,[46])::(1,fd)::(4,[91])::(tqT x++(4,[93])::ks):=by
    rw [fq_mk];show ((2,[104,97,115])::(1,nm)::(4,[46])::(1,fd)::(4,[91])::(tqT x++[(4,[93])]):List Kt)++ks=_;simp only [Al_List_append_assoc,Al_List_cons_append,Al_List_nil_append]
   rw [e1,e2];exact ⟨.kw (by decide) sp_sep (.sp (.nw (n1 rfl) (λc e=>by cases e;decide) (.sy (by decide) (name_hd (n2 rfl)) (.nm (n2 rfl) br_sep (.sy (by decide) k2 k1))))),kw_hd (by decide)⟩
  | flg =>
   cases e
   have e1:fmT (.mk 6 nm [] 0 0 [] [])++r=[102,108,97,103]++32::(nm++r):=by
    rw [fx6 rfl];show ([102,108,97,103]++[32]++nm:Str)++r=_;simp only [Al_List_append_assoc,Al_List_cons_append,Al_List_nil_append]
   rw [e1];exact ⟨.kw (by decide) sp_sep (.sp (.nm (n1 rfl) hr hk)),kw_hd (by decide)⟩
  | @arr nm' fd' ex' hl hx =>
   cases e;obtain ⟨k1,k2⟩:=lx_joi (l:=ex) (λx h=>⟨hx x h,n3 x h⟩) (r:=41::r) (ks:=(4,[41])::ks) cl_sep (.sy (by decide) hr.hd hk)
   have e1:fmT (.mk 7 nm fd 0 0 ex [])++r=[97,114,114,105,118,101,115]++32::(nm++46::(fd++40::(joiT [44,32] (ex.map tmT)++41::r))):=by
    rw [fx7 rfl];show ([97,114,114,105,118,101,115]++[32]++nm++[46]++fd++[40]++joiT [44,32] (ex.map tmT)++[41]:Str)++r=_;simp only [Al_List_append_assoc,Al_List_cons_append,Al_List_nil_append]
   have e2:tqF (.mk 7 nm fd 0 0 ex [])++ks=(2,[97,114,114,105,118,101,115])::(1,nm)::(4,[46])::(1,fd)::(4,[40])::(joiQ (ex.map tqT)++(4,[41])::ks):=by
    rw [fq_mk];show ((2,[97,114,114,105,118,101,115])::(1,nm)::(4,[46])::(1,fd)::(4,[40])::(joiQ (ex.map tqT)++[(4,[41])]):List Kt)++ks=_;simp only [Al_List_append_assoc,Al_List_cons_append,Al_List_nil_append]
   rw [e1,e2];exact ⟨.kw (by decide) sp_sep (.sp (.nw (n1 rfl) (λc e=>by cases e;decide) (.sy (by decide) (name_hd (n2 rfl)) (.nm (n2 rfl) (sepB_cons (by decide)) (.sy (by decide) k2 k1))))),kw_hd (by decide)⟩
  | @un op' g h =>
   cases e;obtain ⟨k1,_⟩:=lx_prQ (ih' g (by simp)) (decide ((fsOf g.op).lv<5)) r ks hr hk;have hw:wordF op∈words:=word_kw op (by rcases h with rfl | rfl <;> decide);have hq:winT (.mk op [] [] 0 0 [] [g])=[]/\winQ (.mk op [] [] 0 0 [] [g])=[]:=by rcases h with rfl | rfl <;> exact ⟨Z,Z⟩
   have e1:fmT (.mk op [] [] 0 0 [] [g])++r=wordF op++32::(pfW 5 g++r):=by
    rw [fxu (by rcases h with rfl | rfl <;> simp) (by simp),hq.1];simp only [Al_List_append_assoc,Al_List_cons_append,Al_List_nil_append];rfl
   have e2:tqF (.mk op [] [] 0 0 [] [g])++ks=(2,wordF op)::(prQ (decide ((fsOf g.op).lv<5)) (tqF g)++ks):=by
    have:tqF (.mk op [] [] 0 0 [] [g])=(2,wordF op)::(winQ (.mk op [] [] 0 0 [] [g])++prQ (decide ((fsOf g.op).lv<5)) (tqF g)):=by
     rw [fq_mk];rcases h with rfl | rfl <;> rfl
    rw [this,hq.2];rfl
   rw [e1,e2];exact ⟨.kw hw sp_sep (.sp k1),kw_hd hw⟩
  | @win op' a' b' g h hwn =>
   cases e;obtain ⟨k1,_⟩:=lx_prQ (ih' g (by simp)) (decide ((fsOf g.op).lv<5)) r ks hr hk;have hw:wordF op∈words:=word_kw op (by rcases h with rfl | rfl <;> decide);obtain ⟨k2,k3⟩:=lx_win (op:=op) (g:=[g]) hwn sp_sep k1.sp
   have e1:fmT (.mk op [] [] a b [] [g])++r=wordF op++(winT (.mk op [] [] a b [] [g])++32::(pfW 5 g++r)):=by
    rw [fxu (by rcases h with rfl | rfl <;> simp) (by simp)];simp only [Al_List_append_assoc,Al_List_cons_append,Al_List_nil_append];rfl
   have e2:tqF (.mk op [] [] a b [] [g])++ks=(2,wordF op)::(winQ (.mk op [] [] a b [] [g])++(prQ (decide ((fsOf g.op).lv<5)) (tqF g)++ks)):=by
    have:tqF (.mk op [] [] a b [] [g])=(2,wordF op)::(winQ (.mk op [] [] a b [] [g])++prQ (decide ((fsOf g.op).lv<5)) (tqF g)):=by
     rw [fq_mk];rcases h with rfl | rfl <;> rfl
    rw [this];simp only [Al_List_append_assoc,Al_List_cons_append]
   rw [e1,e2];exact ⟨.kw hw k3 k2,kw_hd hw⟩
  | @amo op' nm' a' b' g h ha hb =>
   cases e;obtain ⟨k1,_⟩:=lx_prQ (ih' g (by simp)) (decide ((fsOf g.op).lv<5)) r ks hr hk;have hw:wordF op∈words:=word_kw op (by rcases h with rfl | rfl <;> decide);obtain ⟨k2,k3⟩:=lx_amo (op:=op) (nm:=nm) (a:=a) (b:=b) (ex:=[]) (g:=[g]) (n1 (by rcases h with rfl | rfl <;> rfl)) sp_sep k1.sp
   have e1:fmT (.mk op nm [] a b [] [g])++r=wordF op++(amoT (.mk op nm [] a b [] [g])++32::(pfW 5 g++r)):=by
    rw [fxq (by rcases h with rfl | rfl <;> simp) (by simp)];simp only [Al_List_append_assoc,Al_List_cons_append,Al_List_nil_append];rfl
   have e2:tqF (.mk op nm [] a b [] [g])++ks=(2,wordF op)::(amoQ (.mk op nm [] a b [] [g])++(prQ (decide ((fsOf g.op).lv<5)) (tqF g)++ks)):=by
    have:tqF (.mk op nm [] a b [] [g])=(2,wordF op)::(amoQ (.mk op nm [] a b [] [g])++prQ (decide ((fsOf g.op).lv<5)) (tqF g)):=by
     rw [fq_mk];rcases h with rfl | rfl <;> rfl
    rw [this];simp only [Al_List_append_assoc,Al_List_cons_append]
   rw [e1,e2];exact ⟨.kw hw k3 k2,kw_hd hw⟩
  | @cnt nm' a' b' n g ha hb hn0 =>
   cases e;obtain ⟨k1,_⟩:=lx_i64 (n:=n) hn0 (sep_dig hr) hk;have k2:Lx (62::61::32::(Lib.itoa n.toInt++r)) ((4,[62,61])::(3,Lib.itoa n.toInt)::ks):=.tok (x:=(4,[62,61])) (tok_two (by decide)) (.sp k1);have k3:Lx (41::32::62::61::32::(Lib.itoa n.toInt++r)) ((4,[41])::(4,[62,61])::(3,Lib.itoa n.toInt)::ks):=.sy (by decide) sp_sep.hd (.sp k2);obtain ⟨k4,k5⟩:=ih' g (by simp) _ _ cl_sep k3;have k6:=Lx.sy (c:=40) (by decide) k5 k4;obtain ⟨k7,k8⟩:=lx_amo (op:=18) (nm:=nm) (a:=a) (b:=b) (ex:=[.mk 1 [] n []]) (g:=[g]) (n1 rfl) sp_sep k6.sp
   have e1:fmT (.mk 18 nm [] a b [.mk 1 [] n []] [g])++r=[99,111,117,110,116]++(amoT (.mk 18 nm [] a b [.mk 1 [] n []] [g])++32::40::(fmT g++41::32::62::61::32::(Lib.itoa n.toInt++r))):=by
    rw [fx18 rfl rfl (by simp)];show ([99,111,117,110,116]++amoT (.mk 18 nm [] a b [.mk 1 [] n []] [g])++[32,40]++fmT g++[41,32,62,61,32]++Lib.itoa n.toInt:Str)++r=_;simp only [Al_List_append_assoc,Al_List_cons_append,Al_List_nil_append]
   have e2:tqF (.mk 18 nm [] a b [.mk 1 [] n []] [g])++ks=(2,[99,111,117,110,116])::(amoQ (.mk 18 nm [] a b [.mk 1 [] n []] [g])++(4,[40])::(tqF g++(4,[41])::(4,[62,61])::(3,Lib.itoa n.toInt)::ks)):=by
    rw [fq_mk];show ((2,[99,111,117,110,116])::(amoQ (.mk 18 nm [] a b [.mk 1 [] n []] [g])++(4,[40])::(tqF g++(4,[41])::(4,[62,61])::[(3,Lib.itoa n.toInt)])):List Kt)++ks=_;simp only [Al_List_append_assoc,Al_List_cons_append,Al_List_nil_append]
   rw [e1,e2];exact ⟨.kw (by decide) k8 k7,kw_hd (by decide)⟩
  | @bin op' g h ho =>
   cases e;obtain ⟨k1,_⟩:=lx_prQ (ih' h (by simp)) (decide ((fsOf h.op).lv<(fsOf op).lv+1)) r ks hr hk;have hw:wordF op∈words:=word_kw op (by rcases ho with rfl | rfl | rfl <;> decide);have k2:Lx (32::(wordF op++32::(pfW ((fsOf op).lv+1) h++r))) ((2,wordF op)::(prQ (decide ((fsOf h.op).lv<(fsOf op).lv+1)) (tqF h)++ks)):=.sp (.kw hw sp_sep (.sp k1));obtain ⟨k3,k4⟩:=lx_prQ (ih' g (by simp)) (decide ((fsOf g.op).lv<(fsOf op).lv)) _ _ sp_sep k2;have hq:winT (.mk op [] [] 0 0 [] [g,h])=[]/\winQ (.mk op [] [] 0 0 [] [g,h])=[]:=by rcases ho with rfl | rfl | rfl <;> exact ⟨Z,Z⟩
   have e1:fmT (.mk op [] [] 0 0 [] [g,h])++r=pfW (fsOf op).lv g++32::(wordF op++32::(pfW ((fsOf op).lv+1) h++r)):=by
    rw [fxb (by rcases ho with rfl | rfl | rfl <;> simp) (by simp) (by simp),hq.1];simp only [Al_List_append_assoc,Al_List_cons_append,Al_List_nil_append];rfl
   have e2:tqF (.mk op [] [] 0 0 [] [g,h])++ks=prQ (decide ((fsOf g.op).lv<(fsOf op).lv)) (tqF g)++(2,wordF op)::(prQ (decide ((fsOf h.op).lv<(fsOf op).lv+1)) (tqF h)++ks):=by
    have:tqF (.mk op [] [] 0 0 [] [g,h])=prQ (decide ((fsOf g.op).lv<(fsOf op).lv)) (tqF g)++(2,wordF op)::(winQ (.mk op [] [] 0 0 [] [g,h])++prQ (decide ((fsOf h.op).lv<(fsOf op).lv+1)) (tqF h)):=by
     rw [fq_mk];rcases ho with rfl | rfl | rfl <;> rfl
    rw [this,hq.2];simp only [Al_List_append_assoc,Al_List_cons_append,Al_List_nil_append]
   rw [e1,e2];exact ⟨k3,k4⟩
  | @snc a' b' g h hwn =>
   cases e;obtain ⟨k1,_⟩:=lx_prQ (ih' h (by simp)) (decide ((fsOf h.op).lv<5)) r ks hr hk;obtain ⟨k2,k3⟩:=lx_win (op:=15) (g:=[g,h]) hwn sp_sep k1.sp;have k4:Lx (32::([115,105,110,99,101]++(winT (.mk 15 [] [] a b [] [g,h])++32::(pfW 5 h++r)))) ((2,[115,105,110,99,101])::(winQ (.mk 15 [] [] a b [] [g,h])++(prQ (decide ((fsOf h.op).lv<5)) (tqF h)++ks))):=.sp (.kw (by decide) k3 k2);obtain ⟨k5,k6⟩:=lx_prQ (ih' g (by simp)) (decide ((fsOf g.op).lv<4)) _ _ sp_sep k4
   have e1:fmT (.mk 15 [] [] a b [] [g,h])++r=pfW 4 g++32::([115,105,110,99,101]++(winT (.mk 15 [] [] a b [] [g,h])++32::(pfW 5 h++r))):=by
    rw [fxb (.inl Z) (by simp) (by simp)];show (pfW 4 g++[32]++[115,105,110,99,101]++winT (.mk 15 [] [] a b [] [g,h])++[32]++pfW 5 h:Str)++r=_;simp only [Al_List_append_assoc,Al_List_cons_append,Al_List_nil_append]
   have e2:tqF (.mk 15 [] [] a b [] [g,h])++ks=prQ (decide ((fsOf g.op).lv<4)) (tqF g)++(2,[115,105,110,99,101])::(winQ (.mk 15 [] [] a b [] [g,h])++(prQ (decide ((fsOf h.op).lv<5)) (tqF h)++ks)):=by
    rw [fq_mk];show (prQ (decide ((fsOf g.op).lv<4)) (tqF g)++(2,[115,105,110,99,101])::(winQ (.mk 15 [] [] a b [] [g,h])++prQ (decide ((fsOf h.op).lv<5)) (tqF h)):List Kt)++ks=_;simp only [Al_List_append_assoc,Al_List_cons_append]
   rw [e1,e2];exact ⟨k5,k6⟩
section
variable {l:Tks} {r r' ra m:Rq} {w w':Str} {i j:Nat}
def ndF (f:Fm):Fn:=if f.op=4 then ⟨true,true,f,.mk 5 (f.nm++([46]:Str)++f.fd) 0 []⟩ else mdN f
theorem ndF_f (f:Fm):(ndF f).f=f/\(ndF f).fm=true:=by
 unfold ndF
 split <;> exact ⟨Z,Z⟩
theorem ndF_no {f:Fm} (h:¬ f.op=4):ndF f=mdN f:=Al_if_neg h
def bsF (op:UInt8):Nat:=if (fsOf op).lv<6 then (fsOf op).lv else if op=3 then 6 else 10
def Fd (l:Tks) (f:Fm):Prop:=∀ r r',Sps l r (tqF f) r'->Nx l (bsF f.op+1) r'->Rl l (bsF f.op) r (ndF f) r'
theorem lv_le6 (op:UInt8):(fsOf op).lv<=6:=op_cases (q:=λop=>(fsOf op).lv<=6) (by decide +kernel) op
theorem bs_bd (op:UInt8):(fsOf op).lv<=bsF op/\bsF op<=10:=by
 have:=lv_le6 op;unfold bsF
 split
 ·omega
 ·split <;> omega
theorem fd_opnd {g:Fm} (h:Fd l g) {b:Bool} (hl:1<=(fsOf g.op).lv) (hj:1<=j/\j<=5) (hb:b=false->j<=(fsOf g.op).lv) (s:Sps l r (prQ b (tqF g)) r') (hx:Nx l (j+1) r'):Rl l j r (ndF g) r':=by
 have e:=(sps_er s).2;have h1:=bs_bd g.op;cases b with
 | true =>
  have:=par_rl (N:=ndF g) (show Sps l r ((4,[40])::(tqF g++[(4,[41])])) r' from s) λm sm hm=>(h _ _ sm (hm.up (by omega))).at (sps_er sm).2 (Al_Nat_le_refl _) (by omega) (by omega) hm;exact this.to e (by omega) (by omega) (Al_Nat_le_refl _) hx (λk=>hx.up (by omega))
 | false =>
  have:=hb rfl;exact (h _ _ s (hx.up (by omega))).to e (by omega) (by omega) (by omega) hx (λk=>hx.up (by omega))
theorem fd_full {g:Fm} (h:Fd l g) {b:Bool} (hl:1<=(fsOf g.op).lv) (hb:b=false->5<=(fsOf g.op).lv) (s:Sps l r (prQ b (tqF g)) r') (hx:Nx l 6 r'):Gd l (.lev 5) r (ndF g) false r':=(fd_opnd (j:=5) h hl (by decide) hb s hx).full hx.n5
theorem no_lp {j:Nat} {N:Fn} (h:¬ lpB j) (g:Gd l (.lev j) r N false r'):Rl l j r N r':=⟨λe=>absurd e h,λ_=>g⟩
theorem win_of {op:UInt8} {a b:Int64} {gs:List Fm} (hw:bnW a b) (hwn:(fsOf op).wn=true) (s:Sps l r (winQ (.mk op [] [] a b [] gs)) m) (hno:r=m->r.ac l [91]=false):r.wiS l=m/\r.wiA l=a/\r.wiB l=b:=by
 unfold winQ at s;simp only [Fm.op,hwn,Fm.a,Fm.b] at s;unfold Rq.wiS Rq.wiA Rq.wiB
 by_cases h:b.toInt<0
 ·rw [Al_if_pos (by simp [h])] at s;obtain ⟨e,rfl⟩:=s;have hn:¬ m.ac l [91]=true:=by rw [hno rfl];decide
  rw [Al_if_neg hn,Al_if_neg hn,Al_if_neg hn];rcases hw with ⟨rfl,rfl⟩ | hw
  ·exact ⟨Z,Z,Z⟩
  ·omega
 ·rw [Al_if_neg (by simp [h])] at s;obtain ⟨t0,t1,t2,t3,t4,e,rfl⟩:=s
  have hab:0<=a.toInt/\0<=b.toInt:=by
   rcases hw with ⟨rfl,rfl⟩ | hw
   ·exact absurd (by decide) h
   ·omega
  have hy:=T_ac t0 (.inr Z);have n1:=T_nu t1 hab.1;have n3:=T_nu t3 hab.2;rw [Al_if_pos hy,Al_if_pos hy,Al_if_pos hy,n1.1,T_ex t2 (.inr Z),n3.1,T_ex t4 (.inr Z),n1.2,n3.2];exact ⟨Z,Z,Z⟩
theorem int_of {n:Int64} (h:-1000000<=n.toInt) (s:Sps l r (intQ n.toInt) m):r.boS l=m/\r.boV l=n:=by
 unfold intQ at s;unfold Rq.boS Rq.boV
 by_cases h0:n.toInt<0
 ·rw [Al_if_pos h0] at s;obtain ⟨t0,t1,e,rfl⟩:=s;have hy:=T_ac t0 (.inr Z);have hb:=T_nb t1 (by omega);rw [Al_if_pos hy,Al_if_pos hy,hb.1,hb.2];refine ⟨Z,Al_Int64_toInt_inj.1 ?_⟩;have h1:(Int64.ofNat n.toInt.natAbs).toInt=(n.toInt.natAbs:Int):=Al_Int64_toInt_ofNat_of_lt (by omega);rw [Int64.toInt_neg,h1,Int.bmod_eq_of_le (by omega) (by omega)];omega
 ·rw [Al_if_neg h0] at s;obtain ⟨t0,e,rfl⟩:=s;have hn:¬ r.ac l [45]=true:=by rw [T_n1 t0 (.inr Z)];decide
  rw [Al_if_neg hn,Al_if_neg hn];exact T_nu t0 (by omega)
theorem amo_of {op:UInt8} {nm:Str} {a b:Int64} {ex:List Ex} {gs:List Fm} (ha:-1000000<=a.toInt) (hb:-1000000<=b.toInt) (s:Sps l r (amoQ (.mk op nm [] a b ex gs)) m):r.amS l=m/\∀ o,r.amV l o=.mk o nm [] a b [] []:=by
 unfold amoQ at s;simp only [Fm.nm,Fm.a,Fm.b] at s;obtain ⟨t0,t1,s⟩:=s;obtain ⟨m1,s1,t2,s2⟩:=sps_app s;have e1:r.ama l=r.nx.nx:=by unfold Rq.ama;rw [T_nmS t0,T_ex t1 (.inl Z)]
 have i1:=int_of ha s1;have e2:r.amb l=m1.nx:=by unfold Rq.amb;rw [e1,i1.1,T_ex t2 (.inr Z)]
 have i2:=int_of hb s2;unfold Rq.amS Rq.amV;rw [e2,i2.1,e1,i1.2,i2.2,T_nmV t0];exact ⟨Z,λ_=>rfl⟩
theorem wEx_app (f:Fm) (x:Ex) (es:List Ex):(f.wEx (f.ex++[x])).wEx ((f.wEx (f.ex++[x])).ex++es)=f.wEx (f.ex++(x::es)):=by
 show f.wEx (f.ex++[x]++es)=_;rw [Al_List_append_assoc];rfl
theorem arg_gd:∀ (es:List Ex) (f:Fm) (r r':Rq),es≠[]->(∀ x∈es,(x=zE\/termB x=true)/\misB x=false)->Sps l r (joiQ (es.map tqT)++[(4,[41])]) r'->Gd l (.arg f) r (mdN (f.wEx (f.ex++es))) false r'/\r.ac l [41]=false
 | [],_,_,_,h,_,_=>absurd rfl h
 | [x],f,r,r',_,hx,s=>by
  obtain ⟨m,s1,t,e,rfl⟩:=sps_app s
  have ga:∀ f',Gd l (.aft f') m (mdN f') false m.nx:=λf'=>by
   have g:=Gd.afE (f:=f') (T_no (w':=[44]) t (by decide));rw [T_ex t (.inr Z)] at g;exact g
  obtain ⟨h1,h2⟩:=hx x (by simp);rcases h1 with rfl | h1
  ·obtain ⟨t0,e0,rfl⟩:=(show Sps l r [(4,[95])] m from s1);exact ⟨.arU (T_ac t0 (.inr Z)) (ga _),T_no t0 (by decide)⟩
  ·have hx7:Nx l 7 m:=.tok t (by decide);have g1:=(td_all x h1 h2 _ _ s1 (hx7.up (by have:=tlv_ge x.op;omega))).at (sps_er s1).2 (by omega) (show 7<=tlv x.op+3 by have:=tlv_ge x.op;omega) (by have:=tlv_le x.op;omega) hx7;have hf:=gd_first g1 _ rfl (sps_er s1).2;refine ⟨?_,hf.1 _ (by decide)⟩;have g:=Gd.arT (f:=f) (hf.1 _ (by decide)) g1 (ga _);rw [(ndE_e x).1,(ndE_e x).2] at g;exact g
 | x::y::es,f,r,r',_,hx,s=>by
  obtain ⟨m,s1,s2⟩:=sps_app (show Sps l r (tqT x++((4,[44])::(joiQ ((y::es).map tqT)++[(4,[41])]))) r' from by
   have e:joiQ ((x::y::es).map tqT)++[(4,[41])]=tqT x++((4,[44])::(joiQ ((y::es).map tqT)++[(4,[41])])):=by
    show (tqT x++(4,[44])::joiQ ((y::es).map tqT))++_=_;simp only [Al_List_append_assoc,Al_List_cons_append]
   rw [<-e];exact s)
  obtain ⟨t,s3⟩:=s2
  have ga:Gd l (.aft (f.wEx (f.ex++[x]))) m (mdN (f.wEx (f.ex++(x::y::es)))) false r':=by
   have g:=(arg_gd (y::es) (f.wEx (f.ex++[x])) m.nx r' (by simp) (λz hz=>hx z (Al_List_mem_cons_of_mem _ hz)) s3).1;rw [wEx_app] at g;exact .afC (T_ac t (.inr Z)) g
  obtain ⟨h1,h2⟩:=hx x (by simp);rcases h1 with rfl | h1
  ·obtain ⟨t0,e0,rfl⟩:=(show Sps l r [(4,[95])] m from s1);exact ⟨.arU (T_ac t0 (.inr Z)) ga,T_no t0 (by decide)⟩
  ·have hx7:Nx l 7 m:=.tok t (by decide);have g1:=(td_all x h1 h2 _ _ s1 (hx7.up (by have:=tlv_ge x.op;omega))).at (sps_er s1).2 (by omega) (show 7<=tlv x.op+3 by have:=tlv_ge x.op;omega) (by have:=tlv_le x.op;omega) hx7;have hf:=gd_first g1 _ rfl (sps_er s1).2;refine ⟨?_,hf.1 _ (by decide)⟩;have g:=Gd.arT (f:=f) (n:=mdN (f.wEx (f.ex++(x::y::es)))) (hf.1 _ (by decide)) g1 (by rw [(ndE_e x).1];exact ga);rw [(ndE_e x).2] at g;exact g
theorem t7 {x:Ex} (h1:termB x=true) (h2:misB x=false) (s:Sps l r (tqT x) m) (hx:Nx l 7 m):Gd l (.lev 7) r (ndE x) false m :=
 (td_all x h1 h2 _ _ s (hx.up (by have:=tlv_ge x.op;omega))).at (sps_er s).2 (by omega) (by have:=tlv_ge x.op;omega) (by have:=tlv_le x.op;omega) hx
theorem pre_rl {op:UInt8} {a b:Int64} {nm:Str} {g:Fm} (hp:(w,op)∈preW) (t0:r.er=0/\kt (tkf l r.i)=(2,w)) (hg:Gd l (.lev 5) (r.prS l op) (ndF g) false r') (hf:r.prF l op=.mk op nm [] a b [] []) (h4:¬ op=4):Rl l 5 r (ndF (.mk op nm [] a b [] [g])) r':=by
 have G:=Gd.pre hp (T_ac t0 (.inl Z)) hg;rw [(ndF_f g).1,(ndF_f g).2,hf] at G;rw [ndF_no (show ¬ (Fm.mk op nm [] a b [] [g]).op=4 from h4)];exact no_lp (by unfold lpB;decide) G
theorem jn_rl {op:UInt8} {a b:Int64} {f g:Fm} {k:Nat} (hk:1<=k/\k<=4) (A:Rl l k r (ndF f) ra) (t0:ra.er=0/\kt (tkf l ra.i)=(2,joW k)) (hj:ra.jnF l k=.mk op [] [] a b [] []) (hB:Gd l (.lev (k+1)) (ra.jnS l k) (ndF g) false r') (h4:¬ op=4):Rl l k r (ndF (.mk op [] [] a b [] [f,g])) r':=by
 have hl:lpB k:=.inl hk;refine ⟨λ_ n m r2 gg=>?_,λe=>absurd hl e⟩
 have g':Gd l (.lp k (mdN ((ra.jnF l k).wAr [(ndF f).f,(ndF g).f]))) r' n m r2:=by
  rw [(ndF_f f).1,(ndF_f g).1,hj];rw [ndF_no (show ¬ (Fm.mk op [] [] a b [] [f,g]).op=4 from h4)] at gg;exact gg
 have G:=Gd.join hk (T_ac t0 (.inl Z)) hB g';rw [(ndF_f f).2,(ndF_f g).2] at G;exact A.1 hl _ _ _ G
theorem op16nx:∀ o∈([16,17,18,19,20,21]:List UInt8),(16<=o.toNat/\o.toNat<=21)/\∀ x∈cuL,7<=x.1->¬ symT o=x.2:=by decide +kernel
theorem bn_lv {op:UInt8} (ho:op=9\/op=10\/op=11):bsF op=(fsOf op).lv/\(1<=(fsOf op).lv/\(fsOf op).lv<=3)/\joW (fsOf op).lv=wordF op/\UInt8.ofNat (12 - (fsOf op).lv)=op:=by
 rcases ho with rfl | rfl | rfl <;> decide
theorem fd_all (f:Fm):Fm.all formB f=true->Fm.all namdB f=true->Fd l f:=by
 induction f using Fm.ind with
 | _ op nm fd a b ex args ih =>
  intro hf hn r r' s hx;obtain ⟨hf,hfs⟩:=form_all hf;rw [fm_allL,Al_Bool_and_eq_true,Al_List_all_eq_true] at hn;obtain ⟨hn,hns⟩:=hn;obtain ⟨n1,n2,n3⟩:=namd_of hn
  have ih':∀ g∈args,Fd l g/\1<=(fsOf g.op).lv:=λg hg=>⟨ih g hg (hfs g hg) (hns g hg),by
   have:=hfs g hg;obtain ⟨o,x1,x2,x3,x4,x5,x6⟩:=g;have h0:=(form_parts (form_all this).1).1;show 1<=(fsOf o).lv;omega⟩
  have hg:=form_of hf;clear ih hfs hns hf hn;rw [fq_mk] at s;cases hg with
  | tf h =>
   rcases h with rfl | rfl
   ·obtain ⟨t0,e,rfl⟩:=(show Sps l r [(2,[116,114,117,101])] r' from s);exact .of10 (Gd.tru (T_ac t0 (.inl Z)))
   ·obtain ⟨t0,e,rfl⟩:=(show Sps l r [(2,[102,97,108,115,101])] r' from s);exact .of10 (Gd.fal (T_ac t0 (.inl Z)))
  | @cmp o x y h hx1 hy1 =>
   have hm:=n3 _ (Al_List_mem_singleton.2 rfl);have m3:=(mis_op hm).2.2;obtain ⟨m,s1,t0,s2⟩:=sps_app (show Sps l r (tqT x++(4,symT o)::tqT y) r' from s);have hx7:Nx l 7 m:=.tok t0 (op16nx o h).2;have g1:=t7 hx1 (m3 x (by simp)) s1 hx7;have g2:=t7 hy1 (m3 y (by simp)) s2 hx;have hi:=(op16nx o h).1;have g:=Gd.cm1 hi g1 (T_ac t0 (.inr Z)) g2;unfold opB at g;rw [(ndE_e x).1,(ndE_e y).1,(ndE_e x).2,(ndE_e y).2,Al_UInt8_ofNat_toNat] at g;exact no_lp (j:=6) (by unfold lpB;decide) g
  | var =>
   obtain ⟨t0,t1,t2,e,rfl⟩:=(show Sps l r [(1,nm),(4,[46]),(1,fd)] r' from s);have e2:r.nx.nx.nmS l=r.nx.nx.nx:=T_nmS t2;have g:=Gd.nam1 t0.1 (kt_k t0.2) (T_ac t1 (.inr Z)) (by rw [e2];exact hx.brk (show bsF 4+1<=20 by decide));rw [e2,T_nmV t0,T_nmV t2,ful_of t0 t2] at g;exact .of10 g
  | @has _ _ x hx1 =>
   obtain ⟨t0,t1,t2,t3,t4,s⟩:=(show Sps l r ((2,[104,97,115])::(1,nm)::(4,[46])::(1,fd)::(4,[91])::(tqT x++[(4,[93])])) r' from s);obtain ⟨m,s1,t5,e,rfl⟩:=sps_app s;obtain ⟨p1,p2,p3⟩:=pa_of t1 t2 t3;have e1:(r.nx.paS l).exS l [91]=r.nx.nx.nx.nx.nx:=by rw [p1,T_ex t4 (.inr Z)]
   have g:=Gd.has (T_ac t0 (.inl Z)) (by rw [e1];exact t7 hx1 (n3 x (by simp)) s1 (.tok t5 (by decide)));unfold Rq.paV at g;rw [p2,p3,(ndE_e x).1,(ndE_e x).2,T_ex t5 (.inr Z)] at g;exact .of10 g
  | flg =>
   obtain ⟨t0,t1,e,rfl⟩:=(show Sps l r [(2,[102,108,97,103]),(1,nm)] r' from s);have g:=Gd.flg (T_ac t0 (.inl Z));rw [T_nmS t1,T_nmV t1] at g;exact .of10 g
  | arr hl hxs =>
   obtain ⟨t0,t1,t2,t3,t4,s⟩:=(show Sps l r ((2,[97,114,114,105,118,101,115])::(1,nm)::(4,[46])::(1,fd)::(4,[40])::(joiQ (ex.map tqT)++[(4,[41])])) r' from s);obtain ⟨p1,p2,p3⟩:=pa_of t1 t2 t3;have e1:(r.nx.paS l).exS l [40]=r.nx.nx.nx.nx.nx:=by rw [p1,T_ex t4 (.inr Z)]
   have pv:r.nx.paV l 7=.mk 7 nm fd 0 0 [] []:=by unfold Rq.paV;rw [p2,p3]
   by_cases h0:ex=[]
   ·subst h0;obtain ⟨t5,e,rfl⟩:=(show Sps l r.nx.nx.nx.nx.nx [(4,[41])] r' from s);have g:=Gd.arr0 (T_ac t0 (.inl Z)) (by rw [e1];exact T_ac t5 (.inr Z));rw [e1,pv] at g;exact .of10 g
   ·have g1:=arg_gd ex (.mk 7 nm fd 0 0 [] []) _ _ h0 (λx h=>⟨hxs x h,n3 x h⟩) s;have g:=Gd.arr (T_ac t0 (.inl Z)) (by rw [e1];exact g1.2) (by rw [e1,pv];exact g1.1);exact .of10 g
  | @un _ g h =>
   obtain ⟨g1,hl⟩:=ih' g (by simp);have e1:fqO (.mk op [] [] 0 0 [] [g]) ([g].map λf=>(f.op,tqF f))=(2,wordF op)::prQ (decide ((fsOf g.op).lv<5)) (tqF g):=by rcases h with rfl | rfl <;> rfl
   rw [e1] at s;obtain ⟨t0,s⟩:=s;have hb:bsF op=5:=by rcases h with rfl | rfl <;> decide
   rw [show (Fm.mk op [] [] 0 0 [] [g]).op=op from rfl,hb] at hx|-;have G:=fd_full g1 hl (decF (by omega)) s hx;exact pre_rl (w:=wordF op) (by rcases h with rfl | rfl <;> decide) t0 (by rcases h with rfl | rfl <;> exact G) (by rcases h with rfl | rfl <;> rfl) (by rcases h with rfl | rfl <;> decide)
  | @win _ _ _ g h hw =>
   obtain ⟨g1,hl⟩:=ih' g (by simp);have e1:fqO (.mk op [] [] a b [] [g]) ([g].map λf=>(f.op,tqF f))=(2,wordF op)::(winQ (.mk op [] [] a b [] [g])++prQ (decide ((fsOf g.op).lv<5)) (tqF g)):=by rcases h with rfl | rfl <;> rfl
   rw [e1] at s;obtain ⟨t0,s⟩:=s;obtain ⟨m,s1,s2⟩:=sps_app s;have hb:bsF op=5:=by rcases h with rfl | rfl <;> decide
   rw [show (Fm.mk op [] [] a b [] [g]).op=op from rfl,hb] at hx|-;have G:=fd_full g1 hl (decF (by omega)) s2 hx;have hf:=(gd_first G _ rfl (sps_er s2).2).1 [91] (by decide);obtain ⟨w1,w2,w3⟩:=win_of hw (by rcases h with rfl | rfl <;> rfl) s1 (λe=>by rw [e];exact hf);have pS:r.prS l op=m:=by unfold Rq.prS;rw [Al_if_pos h,w1]
   have pF:r.prF l op=.mk op [] [] a b [] []:=by unfold Rq.prF Rq.wiV;rw [Al_if_pos h,w2,w3]
   exact pre_rl (w:=wordF op) (by rcases h with rfl | rfl <;> decide) t0 (by rw [pS];exact G) pF (by rcases h with rfl | rfl <;> decide)
  | @amo _ _ _ _ g h ha hb' =>
   obtain ⟨g1,hl⟩:=ih' g (by simp);have e1:fqO (.mk op nm [] a b [] [g]) ([g].map λf=>(f.op,tqF f))=(2,wordF op)::(amoQ (.mk op nm [] a b [] [g])++prQ (decide ((fsOf g.op).lv<5)) (tqF g)):=by rcases h with rfl | rfl <;> rfl
   rw [e1] at s;obtain ⟨t0,s⟩:=s;obtain ⟨m,s1,s2⟩:=sps_app s;have hb:bsF op=5:=by rcases h with rfl | rfl <;> decide
   rw [show (Fm.mk op nm [] a b [] [g]).op=op from rfl,hb] at hx|-;have G:=fd_full g1 hl (decF (by omega)) s2 hx;obtain ⟨w1,w2⟩:=amo_of ha hb' s1;have pS:r.prS l op=m:=by unfold Rq.prS;rw [Al_if_neg (by rcases h with rfl | rfl <;> decide),Al_if_pos h,w1]
   have pF:r.prF l op=.mk op nm [] a b [] []:=by unfold Rq.prF;rw [Al_if_neg (by rcases h with rfl | rfl <;> decide),Al_if_pos h,w2]
   exact pre_rl (w:=wordF op) (by rcases h with rfl | rfl <;> decide) t0 (by rw [pS];exact G) pF (by rcases h with rfl | rfl <;> decide)
  | @cnt _ _ _ n g ha hb' hn0 =>
   obtain ⟨g1,hl⟩:=ih' g (by simp);obtain ⟨t0,s⟩:=(show Sps l r ((2,[99,111,117,110,116])::(amoQ (.mk 18 nm [] a b [.mk 1 [] n []] [g])++(4,[40])::(tqF g++(4,[41])::(4,[62,61])::[(3,Lib.itoa n.toInt)]))) r' from s);obtain ⟨m,s1,t1,s⟩:=sps_app s;obtain ⟨m2,s2,t2,t3,t4,e,rfl⟩:=sps_app s;obtain ⟨w1,w2⟩:=amo_of ha hb' s1;have e1:(r.nx.amS l).exS l [40]=m.nx:=by rw [w1,T_ex t1 (.inr Z)]
   have hx1:Nx l 1 m2:=.tok t2 (by decide);have G:=(g1 _ _ s2 (hx1.up (by omega))).at (sps_er s2).2 (Al_Nat_le_refl _) (by have:=bs_bd g.op;omega) (bs_bd g.op).2 hx1;have gg:=Gd.cnt (T_ac t0 (.inl Z)) (by rw [e1];exact G);have nu:=T_nu t4 hn0;rw [(ndF_f g).1,(ndF_f g).2,T_ex t2 (.inr Z),T_ex t3 (.inr Z),nu.1,nu.2,w2] at gg;exact no_lp (j:=5) (by unfold lpB;decide) gg
  | @bin _ g h ho =>
   obtain ⟨g1,hl1⟩:=ih' g (by simp);obtain ⟨g2,hl2⟩:=ih' h (by simp);have e1:fqO (.mk op [] [] 0 0 [] [g,h]) ([g,h].map λf=>(f.op,tqF f))=prQ (decide ((fsOf g.op).lv<(fsOf op).lv)) (tqF g)++(2,wordF op)::prQ (decide ((fsOf h.op).lv<(fsOf op).lv+1)) (tqF h):=by rcases ho with rfl | rfl | rfl <;> rfl
   rw [e1] at s;obtain ⟨m,s1,t0,s2⟩:=sps_app s;obtain ⟨hb,hk,hw,hop⟩:=bn_lv ho;rw [show (Fm.mk op [] [] 0 0 [] [g,h]).op=op from rfl,hb] at hx|-;have hxm:Nx l ((fsOf op).lv+1) m:=.tok t0 (by rcases ho with rfl | rfl | rfl <;> decide);have A:=fd_opnd (j:=(fsOf op).lv) g1 hl1 (by omega) (decF (by omega)) s1 hxm;have B:=(fd_opnd (j:=(fsOf op).lv+1) g2 hl2 (by omega) (decF (by omega)) s2 (hx.up (Nat.le_succ _))).full hx;exact jn_rl (k:=(fsOf op).lv) (by omega) A (by rw [hw];exact t0) (by unfold Rq.jnF;rw [Al_if_neg (by omega),hop]) (by unfold Rq.jnS;rw [Al_if_neg (by omega)];exact B) (by rcases ho with rfl | rfl | rfl <;> decide)
  | @snc _ _ g h hw =>
   obtain ⟨g1,hl1⟩:=ih' g (by simp);obtain ⟨g2,hl2⟩:=ih' h (by simp);obtain ⟨m,s1,t0,s2⟩:=sps_app (show Sps l r (prQ (decide ((fsOf g.op).lv<4)) (tqF g)++(2,[115,105,110,99,101])::(winQ (.mk 15 [] [] a b [] [g,h])++prQ (decide ((fsOf h.op).lv<5)) (tqF h))) r' from s);obtain ⟨m2,s3,s4⟩:=sps_app s2;have hxm:Nx l 5 m:=.tok t0 (by decide);have A:=fd_opnd (j:=4) g1 hl1 (by omega) (decF (by omega)) s1 hxm;have B:=fd_full g2 hl2 (decF (by omega)) s4 (hx.up (show bsF 15+1<=6 by decide));have hf:=(gd_first B _ rfl (sps_er s4).2).1 [91] (by decide);obtain ⟨w1,w2,w3⟩:=win_of hw rfl s3 (λe=>by rw [e];exact hf);exact jn_rl (k:=4) (by decide) A t0 (by unfold Rq.jnF Rq.wiV;rw [Al_if_pos rfl,w2,w3]) (by unfold Rq.jnS;rw [Al_if_pos rfl,w1];exact B) (by decide)
theorem fd_lev {f:Fm} (hf:Fm.all formB f=true) (hn:Fm.all namdB f=true) {k:Nat} (hk:1<=k) (hb:k<=(fsOf f.op).lv) (s:Sps l r (tqF f) r') (hx:Nx l k r'):Gd l (.lev k) r (ndF f) false r':=by
 have:=bs_bd f.op;exact (fd_all f hf hn r r' s (hx.up (by omega))).at (sps_er s).2 hk (by omega) this.2 hx
theorem fd_lv1 {f:Fm} (hf:Fm.all formB f=true):1<=(fsOf f.op).lv:=by
 obtain ⟨o,x1,x2,x3,x4,x5,x6⟩:=f;have h0:=(form_parts (form_all hf).1).1;show 1<=(fsOf o).lv;omega
end
theorem tks_sps (h:(lexR s).map kt=ks):Sps (tksF s) ⟨0,0,0⟩ ks ⟨ks.length,0,0⟩/\(tkf (tksF s) ks.length).k=0:=by
 have hl:(lexR s).length=ks.length:=by rw [<-h,Al_List_length_map]
 refine ⟨?_,?_⟩
 ·have:=sps_of (l:=tksF s) ks 0 λj hj=>by
   unfold tkf tksF;rw [Al_Nat_zero_add,List.getD_eq_getElem?_getD,List.getElem?_append_left (by omega),List.getElem?_eq_getElem (by omega)];subst h;rw [Al_List_getElem_map];rfl
  rwa [Al_Nat_zero_add] at this
 ·unfold tkf tksF;rw [List.getD_eq_getElem?_getD,List.getElem?_append_right (by omega),hl,Al_Nat_sub_self];rfl
variable {f:Fm}
theorem fcheck_ok (h:fcheck f=0):f.count<=60/\Fm.all shalB f=true/\Fm.all namdB f=true/\Fm.all formB f=true:=by
 unfold fcheck at h
 split at h
 ·cases h
 rename_i h1
 split at h
 ·cases h
 rename_i h2
 split at h
 ·cases h
 rename_i h3;rw [Al_not_or] at h1;exact ⟨by omega,by simpa using h1.2,by simpa using h2,by simpa using h3⟩
theorem par_txt {n:Fn} {m:Bool} (h:(lexR s).map kt=ks) (g:Gd (tksF s) (.lev 1) ⟨0,0,0⟩ n m ⟨ks.length,0,0⟩):parF (tksF s)=if m || !n.fm then (zF,0,6) else if ¬ fcheck n.f=0 then (zF,0,fcheck n.f) else (n.f,0,0):=by
 rw [par_of (tgd_of s) (by rw [tksF_len];omega) g];unfold refE;have e:refC (tksF s) ⟨ks.length,0,0⟩=⟨ks.length,0,0⟩:=by unfold refC;rw [Al_if_neg (λk=>k.2 (tks_sps h).2)]
 rw [e,Al_if_neg (λk=>k rfl)]
theorem back_par (h:fcheck f=0):parF (tksF (fmT f))=(f,0,0):=by
 obtain ⟨_,_,hn,hf⟩:=fcheck_ok h
 have hk:(lexR (fmT f)).map kt=tqF f:=by
  have:=(lx_fm f hf hn [] [] sepB_nil .nil).1;rw [Al_List_append_nil,Al_List_append_nil] at this;exact this.lex
 obtain ⟨s,e⟩:=tks_sps hk;have g:=fd_lev hf hn (Al_Nat_le_refl 1) (fd_lv1 hf) s (.fin e);rw [par_txt hk g,(ndF_f f).1,(ndF_f f).2,Al_if_neg (by decide),Al_if_neg (by rw [h];decide)]
def nsE (e:Ex):Bool:=Ex.all (λe=>decide (e.nm.length<=30)) e
theorem tmS_len (e:Ex) (hn:nsE e=true):(tmT e).length<=130 * e.count:=by
 induction e using Ex.ind with | _ op nm n args ih
 unfold nsE at hn;rw [all_mk,alls_allE,Al_Bool_and_eq_true,Al_decide_eq_true_eq,Al_List_all_eq_true] at hn;obtain ⟨hn,ha⟩:=hn;have hn':nm.length<=30:=hn
 have hx:∀ (l:List (UInt8 × Str)),l=args.map (λe=>(e.op,tmT e))->(l.headD (0,[])).2.length+((l.drop 1).headD (0,[])).2.length<=130 * Ex.counts args:=by
  rintro l rfl
  match args,ih,ha with
  | [],_,_=>exact Al_Nat_zero_le _
  | [a],ih,ha =>
   have:=ih a (Al_List_mem_cons_self ..) (ha a (Al_List_mem_cons_self ..));rw [Ex.counts,Ex.counts];show (tmT a).length+0<=_;omega
  | a::b::r,ih,ha =>
   have h1:=ih a (Al_List_mem_cons_self ..) (ha a (Al_List_mem_cons_self ..));have h2:=ih b (Al_List_mem_cons_of_mem _ (Al_List_mem_cons_self ..)) (ha b (Al_List_mem_cons_of_mem _ (Al_List_mem_cons_self ..)));rw [Ex.counts,Ex.counts];show (tmT a).length+(tmT b).length<=_;omega
 have hx:=hx _ rfl;rw [ex_count,tm_mk];unfold tmOp;generalize args.map (λe=>(e.op,tmT e))=l at hx|-;have hi:=itoa_len n;have p1:=(prnT_len (decide (tlv (l.headD (0,[])).1<6)) (l.headD (0,[])).2).2;have p2:=(prnT_len (decide (tlv (l.headD (0,[])).1<tlv op)) (l.headD (0,[])).2).2;have p3:=(prnT_len (decide (tlv ((l.drop 1).headD (0,[])).1<tlv op+1)) ((l.drop 1).headD (0,[])).2).2;have p4:=symT_len op;generalize Ex.counts args=C at hx|-
 repeat' split
 all_goals (try simp only [Al_List_length_append,Al_List_length_cons,Al_List_length_nil]);omega
def nsF (f:Fm):Bool:=Fm.all (λf=>decide (f.nm.length<=30) && decide (f.fd.length<=30) && f.ex.all nsE) f
theorem tmSs_len:∀ l:List Ex,(∀ e∈l,nsE e=true)->((l.map tmT).map List.length).sum<=130 * Ex.counts l
 | [],_=>Al_Nat_zero_le _
 | e::r,h=>by
  rw [Al_List_map_cons,Al_List_map_cons,List.sum_cons,Ex.counts];have h1:=tmS_len e (h e (Al_List_mem_cons_self ..));have h2:=tmSs_len r λx hx=>h x (Al_List_mem_cons_of_mem _ hx);omega
theorem tmAs_len (e:Ex) (h:nsE e=true):(tmT (ex0 e)).length+(tmT (ex1 e)).length<=130 * e.count:=by
 obtain ⟨op,nm,n,args⟩:=e;unfold nsE at h;rw [all_mk,alls_allE,Al_Bool_and_eq_true,Al_List_all_eq_true] at h;rw [ex_count];have hz:tmT zE=[95]:=tm_mk
 match args,h.2 with
 | [],_=>show (tmT zE).length+(tmT zE).length<=_;rw [hz,Ex.counts];decide
 | [x],h =>
  have:=tmS_len x (h x (Al_List_mem_cons_self ..));show (tmT x).length+(tmT zE).length<=_;rw [hz,Ex.counts,Ex.counts];show _+1<=_;omega
 | x::y::r,h =>
  have h1:=tmS_len x (h x (Al_List_mem_cons_self ..));have h2:=tmS_len y (h y (Al_List_mem_cons_of_mem _ (Al_List_mem_cons_self ..)));show (tmT x).length+(tmT y).length<=_;rw [Ex.counts,Ex.counts];omega
theorem fmOs_len (F:Fm) (l:List (UInt8 × Str)) (C D:Nat) (h1:F.nm.length<=30) (h2:F.fd.length<=30) (he:(tmT (exH F)).length+(tmT (ex0 (exH F))).length+(tmT (ex1 (exH F))).length<=260 * D+3)
 (hj:(joiT ([44,32]:Str) (F.ex.map tmT)).length<=132 * D) (hx:(l.headD (0,[])).2.length+((l.drop 1).headD (0,[])).2.length<=400 * C) (w1:(winT F).length<=46) (w2:(amoT F).length<=F.nm.length+49):(fmOp F l).length<=400 * (D+C+1):=by
 have w3:=wordF_len F.op;have w4:=symT_len (exH F).op;have p1:=(prnT_len (decide ((fsOf (l.headD (0,[])).1).lv<5)) (l.headD (0,[])).2).2;have p2:=(prnT_len (decide ((fsOf (l.headD (0,[])).1).lv<(fsOf F.op).lv)) (l.headD (0,[])).2).2;have p3:=(prnT_len (decide ((fsOf ((l.drop 1).headD (0,[])).1).lv<(fsOf F.op).lv+1)) ((l.drop 1).headD (0,[])).2).2;unfold fmOp
 repeat' split
 all_goals (try simp only [Al_List_length_append,Al_List_length_cons,Al_List_length_nil]);omega
theorem fmS_len (f:Fm) (hn:nsF f=true):(fmT f).length<=400 * f.count:=by
 induction f using Fm.ind with | _ op nm fd a b ex args ih
 unfold nsF at hn;rw [fm_allL,Al_Bool_and_eq_true,Al_Bool_and_eq_true,Al_Bool_and_eq_true,Al_decide_eq_true_eq,Al_decide_eq_true_eq,Al_List_all_eq_true,Al_List_all_eq_true] at hn;obtain ⟨⟨⟨hn,hf⟩,he⟩,ha⟩:=hn;have hn':nm.length<=30:=hn;have hf':fd.length<=30:=hf;have he':∀ e∈ex,nsE e=true:=he
 have hx:∀ (l:List (UInt8 × Str)),l=args.map (λf=>(f.op,fmT f))->(l.headD (0,[])).2.length+((l.drop 1).headD (0,[])).2.length<=400 * Fm.counts args:=by
  rintro l rfl
  match args,ih,ha with
  | [],_,_=>exact Al_Nat_zero_le _
  | [a],ih,ha =>
   have:=ih a (Al_List_mem_cons_self ..) (ha a (Al_List_mem_cons_self ..));rw [Fm.counts,Fm.counts];show (fmT a).length+0<=_;omega
  | a::b::r,ih,ha =>
   have h1:=ih a (Al_List_mem_cons_self ..) (ha a (Al_List_mem_cons_self ..));have h2:=ih b (Al_List_mem_cons_of_mem _ (Al_List_mem_cons_self ..)) (ha b (Al_List_mem_cons_of_mem _ (Al_List_mem_cons_self ..)));rw [Fm.counts,Fm.counts];show (fmT a).length+(fmT b).length<=_;omega
 have hx:=hx _ rfl
 have he0:(tmT (exH (.mk op nm fd a b ex args))).length+(tmT (ex0 (exH (.mk op nm fd a b ex args)))).length+(tmT (ex1 (exH (.mk op nm fd a b ex args)))).length<=260 * Ex.counts ex+3:=by
  have hz:tmT zE=[95]:=tm_mk
  match ex,he' with
  | [],_ =>
   show (tmT zE).length+(tmT zE).length+(tmT zE).length<=_;rw [hz];show 3<=_;omega
  | e::r,h =>
   have h1:=tmS_len e (h e (Al_List_mem_cons_self ..));have h2:=tmAs_len e (h e (Al_List_mem_cons_self ..));show (tmT e).length+(tmT (ex0 e)).length+(tmT (ex1 e)).length<=_;rw [Ex.counts];omega
 have hj:=joi_len ([44,32]:Str) (ex.map tmT);have hs:=tmSs_len ex he';have hl2:=ex_len ex;rw [Al_List_length_map] at hj;rw [fm_count,fm_mk];have e2:([44,32]:Str).length=2:=rfl;rw [e2] at hj;exact fmOs_len _ _ _ _ hn' hf' he0 (Al_Nat_le_trans hj (by omega)) hx win_len amo_len
theorem mis_ns (e:Ex):misB e=false->termB e=true->nsE e=true:=by
 induction e using Ex.ind with | _ op nm n args ih
 intro h ht;obtain ⟨m1,_,m3⟩:=mis_op h;unfold nsE;rw [all_mk,alls_allE,Al_Bool_and_eq_true,Al_decide_eq_true_eq,Al_List_all_eq_true]
 have nm30:(op=5\/op=6\/op=8)->nm.length<=30:=λho=>by
  have k:=m1 ho;unfold nmQ at k;cases hs:splitF nm with
  | none=>rw [hs] at k;have:=(nameB_facts k).2.2.2.2;omega
  | some x =>
   obtain ⟨a,b⟩:=x;rw [hs] at k;simp only [Al_Bool_and_eq_true] at k;have k1:=(nameB_facts k.1).2.2.2.2;have k2:=(nameB_facts k.2).2.2.2.2;rw [splitF_back hs,Al_List_length_append,Al_List_length_append];show a.length+1+b.length<=30;omega
 show nm.length<=30/\_;rcases trm_op ht with ⟨rfl,rfl,_,rfl⟩ | ⟨rfl,rfl,_,rfl⟩ | ⟨ho,_,rfl⟩ | ⟨rfl,_,a,rfl,ha⟩ | ⟨rfl,rfl,_,a,rfl,ha⟩ | ⟨_,rfl,_,a,b,rfl,ha,hb⟩
 ·exact ⟨by decide,λx hx=>(by cases hx)⟩
 ·exact ⟨by decide,λx hx=>(by cases hx)⟩
 ·exact ⟨nm30 (by rcases ho with h | h <;> simp [h]),λx hx=>(by cases hx)⟩
 ·exact ⟨nm30 (by simp),λx hx=>by rw [Al_List_mem_singleton.1 hx];exact ih a (by simp) (m3 a (by simp)) ha⟩
 ·exact ⟨by decide,λx hx=>by rw [Al_List_mem_singleton.1 hx];exact ih a (by simp) (m3 a (by simp)) ha⟩
 ·refine ⟨by decide,λx hx=>?_⟩;simp only [Al_List_mem_cons,List.not_mem_nil,or_false] at hx;rcases hx with rfl | rfl
  ·exact ih _ (by simp) (m3 _ (by simp)) ha
  ·exact ih _ (by simp) (m3 _ (by simp)) hb
theorem good_ns (f:Fm):Fm.all formB f=true->Fm.all namdB f=true->nsF f=true:=by
 induction f using Fm.ind with | _ op nm fd a b ex args ih
 intro hf hn;obtain ⟨hf,hfs⟩:=form_all hf;rw [fm_allL,Al_Bool_and_eq_true,Al_List_all_eq_true] at hn;obtain ⟨hn,hns⟩:=hn;obtain ⟨n1,n2,n3⟩:=namd_of hn;unfold nsF;rw [fm_allL,Al_Bool_and_eq_true,Al_List_all_eq_true];refine ⟨?_,λg hg=>ih g hg (hfs g hg) (hns g hg)⟩;have hg:=form_of hf;rw [Al_Bool_and_eq_true,Al_Bool_and_eq_true,Al_decide_eq_true_eq,Al_decide_eq_true_eq,Al_List_all_eq_true];show (nm.length<=30/\fd.length<=30)/\∀ x∈ex,nsE x=true;have l1:nameB nm=true->nm.length<=30:=λk=>by have:=(nameB_facts k).2.2.2.2;omega
 have l2:nameB fd=true->fd.length<=30:=λk=>by have:=(nameB_facts k).2.2.2.2;omega
 have z:∀ x∈([]:List Ex),nsE x=true:=λx hx=>(by cases hx);have nz:([]:Str).length<=30:=by decide
 have z0:nsE zE=true:=by decide
 cases hg with
 | tf=>exact ⟨⟨nz,nz⟩,z⟩
 | @cmp o x y h hx hy =>
  refine ⟨⟨nz,nz⟩,λe he=>?_⟩;rw [Al_List_mem_singleton.1 he];have m3:=(mis_op (n3 _ (Al_List_mem_singleton.2 rfl))).2.2;unfold nsE;rw [all_mk,alls_allE,Al_Bool_and_eq_true,Al_decide_eq_true_eq,Al_List_all_eq_true];refine ⟨nz,λe he=>?_⟩;simp only [Al_List_mem_cons,List.not_mem_nil,or_false] at he;rcases he with rfl | rfl
  ·exact mis_ns _ (m3 _ (by simp)) hx
  ·exact mis_ns _ (m3 _ (by simp)) hy
 | var=>exact ⟨⟨l1 (n1 rfl),l2 (n2 rfl)⟩,z⟩
 | has hx=>exact ⟨⟨l1 (n1 rfl),l2 (n2 rfl)⟩,λe he=>by rw [Al_List_mem_singleton.1 he];exact mis_ns _ (n3 _ (by simp)) hx⟩
 | flg=>exact ⟨⟨l1 (n1 rfl),nz⟩,z⟩
 | arr hl hx =>
  refine ⟨⟨l1 (n1 rfl),l2 (n2 rfl)⟩,λe he=>?_⟩;rcases hx e he with rfl | h
  ·exact z0
  ·exact mis_ns _ (n3 e he) h
 | un=>exact ⟨⟨nz,nz⟩,z⟩
 | win=>exact ⟨⟨nz,nz⟩,z⟩
 | amo h=>exact ⟨⟨l1 (n1 (by rcases h with rfl | rfl <;> rfl)),nz⟩,z⟩
 | cnt=>exact ⟨⟨l1 (n1 rfl),nz⟩,λe he=>by rw [Al_List_mem_singleton.1 he];rfl⟩
 | bin=>exact ⟨⟨nz,nz⟩,z⟩
 | snc=>exact ⟨⟨nz,nz⟩,z⟩
theorem trm_bl (e:Ex):termB e=true->blE 4 e=true:=by
 induction e using Ex.ind with | _ op nm n args ih
 intro ht;refine blE_mk.2 ?_;rcases trm_op ht with ⟨_,_,_,rfl⟩ | ⟨_,_,_,rfl⟩ | ⟨_,_,rfl⟩ | ⟨_,_,a,rfl,ha⟩ | ⟨_,_,_,a,rfl,ha⟩ | ⟨_,_,_,a,b,rfl,ha,hb⟩
 ·exact ⟨by decide,λx hx=>(by cases hx)⟩
 ·exact ⟨by decide,λx hx=>(by cases hx)⟩
 ·exact ⟨by decide,λx hx=>(by cases hx)⟩
 ·exact ⟨(by decide:1<=4),λx hx=>by rw [Al_List_mem_singleton.1 hx];exact ih a (by simp) ha⟩
 ·exact ⟨(by decide:1<=4),λx hx=>by rw [Al_List_mem_singleton.1 hx];exact ih a (by simp) ha⟩
 ·refine ⟨(by decide:2<=4),λx hx=>?_⟩;simp only [Al_List_mem_cons,List.not_mem_nil,or_false] at hx;rcases hx with rfl | rfl
  ·exact ih _ (by simp) ha
  ·exact ih _ (by simp) hb
theorem good_bl (f:Fm):Fm.all formB f=true->blF 4 f=true:=by
 induction f using Fm.ind with | _ op nm fd a b ex args ih
 intro hf;obtain ⟨hf,hfs⟩:=form_all hf;have hg:=form_of hf;refine blF_mk.2 ⟨?_,λg hg=>ih g hg (hfs g hg)⟩;have z:∀ x∈([]:List Ex),blE 4 x=true:=λx hx=>(by cases hx);cases hg with
 | tf=>exact ⟨by decide,by decide,z⟩
 | @cmp o x y h hx hy =>
  refine ⟨(by decide:1<=4),by decide,λe he=>?_⟩;rw [Al_List_mem_singleton.1 he];refine blE_mk.2 ⟨(by decide:2<=4),λe he=>?_⟩;simp only [Al_List_mem_cons,List.not_mem_nil,or_false] at he;rcases he with rfl | rfl
  ·exact trm_bl _ hx
  ·exact trm_bl _ hy
 | var=>exact ⟨by decide,by decide,z⟩
 | has hx=>exact ⟨(by decide:1<=4),by decide,λe he=>by rw [Al_List_mem_singleton.1 he];exact trm_bl _ hx⟩
 | flg=>exact ⟨by decide,by decide,z⟩
 | arr hl hx =>
  refine ⟨hl,by decide,λe he=>?_⟩;rcases hx e he with rfl | h
  ·exact blE_mk.2 ⟨by decide,λx hx=>(by cases hx)⟩
  ·exact trm_bl _ h
 | un=>exact ⟨by decide,(by decide:1<=4),z⟩
 | win=>exact ⟨by decide,(by decide:1<=4),z⟩
 | amo=>exact ⟨by decide,(by decide:1<=4),z⟩
 | cnt=>exact ⟨(by decide:1<=4),(by decide:1<=4),λe he=>by rw [Al_List_mem_singleton.1 he];exact blE_mk.2 ⟨Al_Nat_zero_le _,λx hx=>(by cases hx)⟩⟩
 | bin=>exact ⟨by decide,(by decide:2<=4),z⟩
 | snc=>exact ⟨by decide,(by decide:2<=4),z⟩
theorem chk_bl (h:fcheck f=0):blF 4 f=true:=good_bl f (fcheck_ok h).2.2.2
theorem par_good {l:Tks} {o e:Nat} (h:parF l=(f,o,e)):(e=0->fcheck f=0/\o=0)/\(¬ e=0->f=zF):=by
 unfold parF endP at h
 split at h
 ·rename_i k;cases h;exact ⟨λe=>absurd e k,λ_=>rfl⟩
 split at h
 ·cases h;exact ⟨λe=>(by cases e),λ_=>rfl⟩
 split at h
 ·rename_i k;cases h;exact ⟨λe=>absurd e k,λ_=>rfl⟩
 ·rename_i k;cases h;exact ⟨λ_=>⟨Al_Classical_not_not.1 k,Z⟩,λe=>absurd rfl e⟩
theorem good_short (h:fcheck f=0):(fmT f).length<=24000:=by
 obtain ⟨hc,_,hn,hf⟩:=fcheck_ok h;have:=fmS_len f (good_ns f hf hn);omega
theorem textF_ok (h:fcheck f=0):textF f=fmT f:=Al_if_pos h
theorem Fx.call24:callN prg 24=true:=by kernel_rfl
theorem take_min {α:Type} (l:List α) (k:Nat):l.take (min l.length k)=l.take k:=by
 by_cases h:l.length<=k
 ·rw [Al_Nat_min_eq_left h,Al_List_take_length,Al_List_take_of_length_le h]
 ·rw [Al_Nat_min_eq_right (by omega)]
theorem take_short (n:Str):(n.take 400).length<=400000:=by rw [Al_List_length_take];omega
theorem short_any (H:Hp) (n:Str) (hn:n.length<=9223372036854775807) (w:World) (hA:Agr H w):Calls prg 30 #[strV n] w λr w'=>r=.returned (strV (n.take 400))/\Ext w w':=by
 refine Sx.enter (H:=H) func30 rfl ntmps30 rfl hA ?_;refine .sr<|.a Z Z<|.ns<|.mv Z<|.mv Z<|.yw (.lenS Fx.str9 Z)<|.yw (.min2 Z Z (c:=((min n.length 400:Nat):Int)) (by omega))<|.yw (.takeS Fx.str9 Z Z (hi:=min n.length 400) Z (by omega))<|.az Z<|?_
 exact y9 Z Z λW s=>⟨by rw [show n.take (min n.length 400)=n.take 400 from take_min n 400];rfl,s.ext⟩
variable {N M:Nat}
theorem blF_up (h:N<=M):blF N f=true->blF M f=true:=by
 have hE:∀ e:Ex,blE N e=true->blE M e=true:=λe=>by
  induction e using Ex.ind with | _ op nm n args ih
  intro k;obtain ⟨k1,k2⟩:=blE_mk.1 k;exact blE_mk.2 ⟨by omega,λa ha=>ih a ha (k2 a ha)⟩
 induction f using Fm.ind with | _ op nm fd a b ex args ih
 intro k;obtain ⟨⟨k1,k2,k3⟩,k4⟩:=blF_mk.1 k;exact blF_mk.2 ⟨⟨by omega,by omega,λe he=>hE e (k3 e he)⟩,λg hg=>ih g hg (k4 g hg)⟩
theorem fparse_is (H:Hp) (GL:Gl H) (G:Gf H) (t:Str) (f:Fm) (o e:Nat) (hl:t.length<=400000) (hp:parF (tksF t)=(f,o,e)) (w:World) (hA:Agr H w) :
 Calls prg 26 #[strV t] w λr W'=>∃ (cs:List Value) (H':Hp),Rep H' (dFm .u8 f) cs/\r=.returned (.tuple #[.agg cs.toArray,iN o,iN e])/\Grow H w H' W':=by
 have h:=fparse_any H GL G t hl w hA;rw [hp] at h;exact h
theorem Fx.call30:callN prg 30=true:=by kernel_rfl
set_option maxHeartbeats 2000000 in
theorem formulaPrinted_any (H:Hp) (GL:Gl H) (G:Gf H) (gq:Gq H) (n:Str) (hn:n.length<=9223372036854775807) (w:World) (hA:Agr H w) :
 Calls prg 10 #[strV n] w λr w'=>r=.returned (.bool true)/\Ext w w':=by
 obtain ⟨f0,o0,e0,hp⟩:∃ f o e,parF (tksF (n.take 400))=(f,o,e):=⟨_,_,_,Z⟩;refine Sx.enter (H:=H) func10 rfl ntmps10 rfl hA ?_;refine .sr<|.aq Z<|.sq<|.sr<|.yw (.call Fx.call13 Z (λW s=>awake_any H GL G gq W s.agr))<|.yw (.not Z)<|.nt<|.cF Z<|.sk<|.tN<|.sm Z<|.yw (.call Fx.call30 Z (λW s=>short_any H n hn W s.agr))<|.ct (X:=List Value) Fx.call26 Z (λW s=>fparse_is H GL G (n.take 400) f0 o0 e0 (take_short n) hp W s.agr) Z λx1 H1 hx1 u1=>.mv Z<|.yw (.extract Z Z)<|.yw (.extract Z Z)<|.yw (.extract Z Z)<|.al Fx.zero35 Z λb3=>.sV .head Z Z Fx.size35 (fm_len hx1) hx1.one Z<|.a Z Z<|.aq Z<|.sq<|.sm Z<|.yw (.neq Z Z)<|.nt<|.cd Z (λh18=>?_) (λh18=>?_)
 ·have he:¬ e0=0:=λe=>Al_of_decide_eq_true h18 (by rw [e];rfl);obtain rfl:=(par_good hp).2 he;refine .sr<|.yw (.loadW Z Fx.agg35 Hm (fm_len hx1))<|.yw (.build Z Fx.bld35)<|.yw (.cast (.call Fx.call24 Z (λW s=>fequal_any H1 zF zF 4 (blF_z) (by decide) (by decide) _ _ W hx1 (zf_rep H1) s.agr)) (congrArg Value.bool (eqP_iff.2 Z)))<|.az Z<|.tR<|?_
  exact y9 Z Z λW s=>⟨Z,((u1).grow s).ext⟩
 have he:e0=0:=by have:=Al_of_decide_eq_false h18;omega
 obtain ⟨hc,ho⟩:=(par_good hp).1 he;have hct:=(fcheck_ok hc).1;refine .sk<|.tN<|.sr<|.yw (.loadW Z Fx.agg35 Hm (fm_len hx1))<|.yw (.cast (.call Fx.call19 Z (λW s=>fText_any H1 (GL.up u1.up) (G.up u1.up) (gq.up u1.up) f0 (blF_up (by decide) (chk_bl hc)) _ W hx1 s.agr)) (congrArg strV (textF_ok hc)))<|.ct (X:=List Value) Fx.call26 Z (λW s=>fparse_ok H1 (GL.up u1.up) (G.up u1.up) (fmT f0) f0 (Al_Nat_le_trans (good_short hc) (by decide)) (back_par hc) W s.agr) Z λx4 H2 hx4 uH2=>?_
 have hx1a:=hx1.up uH2.up;refine .mv Z<|.yw (.extract Z Z)<|.yw (.extract Z Z)<|.yw (.extract Z Z)<|.al Fx.zero35 Z λb6=>.sV .head Z Z Fx.size35 (fm_len hx4) hx4.one Z<|.a Z Z<|.aq Z<|.sq<|.fL 19 [(0,0),(1,0),(2,0),(3,0),(4,0),(5,0),(6,0),(7,0),(8,0),(9,0),(10,0),(11,0),(12,0),(13,0),(14,0),(15,0),(16,0),(17,0),(18,0)]<|.mv Z<|.yw (.cast (.eql Z Z) (congrArg Value.bool (Al_decide_eq_true Z)))<|.mv Z<|.yg Z Z (.loadW Z Fx.agg35 mem1 (fm_len hx1)) Z<|.yg Z Z (.loadW Z Fx.agg35 Hm (fm_len hx4)) Z<|.yg Z Z (.cast (.call Fx.call24 Z (λW s=>fequal_any H2 f0 f0 4 (chk_bl hc) (by omega) (by decide) _ _ W hx1a hx4 s.agr)) (congrArg Value.bool (eqP_iff.2 Z))) Z<|.yw (.pickT Z Z)<|.mv Z<|.yg Z Z (.loadW Z Fx.agg35 mem1 (fm_len hx1)) Z<|.yg Z Z (.cast (.call Fx.call19 Z (λW s=>fText_any H2 ((GL.up u1.up).up uH2.up) ((G.up u1.up).up uH2.up) ((gq.up u1.up).up uH2.up) f0 (blF_up (by decide) (chk_bl hc)) _ W hx1a s.agr)) (congrArg strV (textF_ok hc))) Z<|.yg Z Z (.loadW Z Fx.agg35 Hm (fm_len hx4)) Z<|.yg Z Z (.cast (.call Fx.call19 Z (λW s=>fText_any H2 ((GL.up u1.up).up uH2.up) ((G.up u1.up).up uH2.up) ((gq.up u1.up).up uH2.up) f0 (blF_up (by decide) (chk_bl hc)) _ W hx4 s.agr)) (congrArg strV (textF_ok hc))) Z<|.yg Z Z (.cast (.eqS Z Z) (congrArg Value.bool (Al_decide_eq_true Z))) Z<|.yw (.pickT Z Z)<|.mv Z<|.yg Z Z (.loadW Z Fx.agg35 mem1 (fm_len hx1)) Z<|.yg Z Z (.cast (.call Fx.call15 Z (λW s=>fcheck_any H2 ((GL.up u1.up).up uH2.up) ((G.up u1.up).up uH2.up) f0 (blF_up (by decide) (chk_bl hc)) _ W hx1a s.agr)) (by rw [hc];rfl)) Z<|.yg Z Z (.cast (.eql Z Z) (congrArg Value.bool (Al_decide_eq_true Z))) Z<|.yw (.pickT Z Z)<|.fn (tl:=[_]) Z<|.az Z<|?_
 exact y9 Z Z λW s=>⟨Z,((u1.trans uH2).grow s).ext⟩
variable {H:Type} {enc:TypeId × Value->H}
theorem wrap {a:Assume} {C:Checked} {os:Os} {f:FuncId} {fn:Func} {s:ChangeSpec} {conds:List PathCond} {apart fresh handsOn again:Bool} {X:World->Array Value->Prop} 
 (hX:∀ (w w':World) (args:Array Value),w.heap=w'.heap->X w args->X w' args)
 (own:ownKnob C.prog.godebug=none) (started:os.Started) (noInit:C.prog.inits.idxOf? f=none) (hfn:C.prog.funcs[f]? = some fn)
 (witness:∃ (w:World) (tape:Tape) (i:Input),w.os=os/\(w.forCall tape i).Shaped C.prog/\i.vars=[]/\Input.okWide C.prog (w.forCall tape i) .any w.heap.size f i /\
  ((s.pre enc C.prog fn conds apart (w.forCall tape i).memory i.args/\X (w.forCall tape i).memory i.args)/\sizedMet enc C.prog fn (OpenSpec.ofChange s) apart (w.forCall tape i).memory i.args)/\a.holds C.prog (lone (Frame.enter C.prog f i.args .normal) [] (w.forCall tape i)))
 (contract:∀ (W:World) (base:Nat) (args:Array Value) (ds gs:List (DataW H)) (before:List MemPlace),
  (∀ (j:Nat) t v,fn.params[j]? = some t->args[j]? = some v->Value.okWide C.prog W .any base t v) ->
  DataW.Whole enc C.prog fn.params.toList s.vars apart W args.toList ds gs before ->
  X W args->W.ShapedOpen C.prog ->
  Calls C.prog f args W λe W'=>∃ v,e=.returned v/\s.post enc C.prog fn apart fresh handsOn again W args v W') :
 ReturnsInHanded a C os f .any (λw args=>(s.pre enc C.prog fn conds apart w args/\X w args)/\sizedMet enc C.prog fn (OpenSpec.ofChange s) apart w args) (s.post enc C.prog fn apart fresh handsOn again):=by
 refine returnsInHanded_of_calls own started noInit witness ?_;intro w tape i _ hsh _ hok hpre _;obtain ⟨_,_,_,fn',hfn',_,_,_,_,hval⟩:=hok;have e:fn'=fn:=Al_Option_some_inj (hfn'.symm.trans hfn);subst e;obtain ⟨⟨⟨ds,gs,before,hw,_⟩,hx⟩,_⟩:=hpre;have hw':=DataW.Whole.of_heap (w':=w.forCall tape i) (by rfl) hw;refine (contract (w.forCall tape i) w.heap.size i.args ds gs before hval hw' (hX _ _ _ (by rfl) hx) hsh).mono λe W' ⟨v,he,hp⟩=>?_;subst he;exact ChangeSpec.post_blind hp

theorem own:ownKnob prg.godebug=none:=by kernel_rfl
def laids:List (String × DataW Unit):=[("math/bits.deBruijn32tab",Rows.laid_math_bits_deBruijn32tab),("math/bits.deBruijn64tab",Rows.laid_math_bits_deBruijn64tab),("internal/strconv.uint64pow10",Rows.laid_internal_strconv_uint64pow10),("rootcause/lexer.words",Rows.laid_rootcause_lexer_words),("rootcause/lexer.symbols",Rows.laid_rootcause_lexer_symbols),("rootcause/formula.shapes",Rows.laid_rootcause_formula_shapes),("rootcause/formula.symbols",Rows.laid_rootcause_formula_symbols),("rootcause/formula.words",Rows.laid_rootcause_formula_words)]
theorem gTab:prg.globalNamed "internal/strconv.uint64pow10" = some 6:=by kernel_rfl
theorem gTabT:(prg.globals[6]?).map (·.type)=some 257:=by kernel_rfl
theorem cellsTab:prg.cellsOf 257=20:=by kernel_rfl
theorem cellsTabE:prg.cellsOf 242=1:=by kernel_rfl
theorem tabEq:(Rows.laid_internal_strconv_uint64pow10:DataW Unit)=Lib.tabData .u64 Lib.pow10Tab:=by kernel_rfl
variable {W:World}
theorem gt_of (h:laidMet prg laids W):Gq (allH W):=by
 intro W' hA;have h1:Lib.TabIs prg W "internal/strconv.uint64pow10" .u64 Lib.pow10Tab:=Lib.tabIs_of_head gTab gTabT Tryz.underlying257 Tryz.underlying242 cellsTabE cellsTab (tabEq ▸ h.tail.tail);unfold Lib.TabIs World.var? at *;rw [gTab] at *;simp only [Al_Option_bind_some] at *
 split at h1
 ·rename_i cs T m hb;rw [hA 6 _ hb];exact h1
 ·cases h1
theorem gl_of (h:laidMet prg laids W):Gl (allH W) :=
 ⟨laid_mem (t:=235) (.arr 39 .strg) _ (by kernel_rfl) (by kernel_rfl) (by kernel_rfl) (by kernel_rfl) (by kernel_rfl) h.tail.tail.tail,
  laid_mem (t:=217) (.arr 25 .strg) _ (by kernel_rfl) (by kernel_rfl) (by kernel_rfl) (by kernel_rfl) (by kernel_rfl) h.tail.tail.tail.tail⟩
theorem gf_of (h:laidMet prg laids W):Gf (allH W) :=
 ⟨laid_mem (t:=163) (.arr 19 .strg) _ (by kernel_rfl) (by kernel_rfl) (by kernel_rfl) (by kernel_rfl) (by kernel_rfl) h.tail.tail.tail.tail.tail.tail.tail,
  laid_mem (t:=165) (.arr 22 .strg) _ (by kernel_rfl) (by kernel_rfl) (by kernel_rfl) (by kernel_rfl) (by kernel_rfl) h.tail.tail.tail.tail.tail.tail,
  laid_mem (t:=200) (.arr 19 (.str [.int .u8,.bool,.bool,.bool,.bool,.int .u8,.int .u8])) _ (by kernel_rfl) (by kernel_rfl) (by kernel_rfl) (by kernel_rfl) (by kernel_rfl) h.tail.tail.tail.tail.tail⟩
theorem laid_met (os:Os) (args:Array Value):laidMet prg laids ((World.laidAll prg os laids).forCall (λ_ _=>0) ⟨#[],args,[]⟩).memory :=
 laidMet_laidAll _ (by kernel_rfl) (by kernel_rfl)
theorem laid_shaped (os:Os) (args:Array Value):((World.laidAll prg os laids).forCall (λ_ _=>0) ⟨#[],args,[]⟩).Shaped prg :=
 World.shaped_of_ZipB (by kernel_rfl) (by kernel_rfl)
variable {W':World}
theorem ext_kept (h:Ext W W'):∀ may,W.keptBut W' may:=λmay=>(Ext.below h).frame may
theorem laidOut:laidOutB prg=true:=by kernel_rfl
end Go.Proofs.YtidclioghdbphaaGreatDoor
/- The walk lifted: for every input, rootcauselaw34.FormulaPrinted returns true, and its arguments read as they did (the tied card FormulaPrintedCardSaid). Conditions: the card's own (the listed package variables read as the program's initialisers lay them, tied to the text), and no others. -/
namespace Go.Proofs.YtidclioghdbphaaGreatDoor
open Go.RowKit Go.Par Go.Sx
variable {W:World} {v:Value}
theorem open_strS {H:Type} {enc:TypeId × Value->H} {b base:Nat} {sp:Nat->Bool} {held:Bool} {d:DataW H} {p:List MemPlace} (hv:Value.okWide prg W .any b 9 v) (h:DataW.Trod enc prg W base sp held 9 v d p) :
 ∃ l:Str,v=strV l/\l.length<=9223372036854775807:=by
 obtain ⟨s,rfl,_,_,hs⟩:=Go.ChangeMaps.open_string Tryz.underlying9 hv h;exact ⟨s.data.toList,Z,Al_Nat_le_trans (Nat.le_of_eq (by simp)) hs⟩
namespace formulaPrinted
open Go.ChangeShapes Go.WideShapes Go.ChangeAt Go.RowKit
open Go.ChangeMaps (open_string shut_string)
theorem lifted (os:Os) (started:os.Started) (H:Type) (enc:TypeId × Value->H) :
 ReturnsInHanded {} Tryz.checked os 10 .any (λw args=>(Rows.formulaPrintedSpec.pre enc prg Tryz.f10 [] false w args/\laidMet prg laids w)/\sizedMet enc prg Tryz.f10 (OpenSpec.ofChange Rows.formulaPrintedSpec) false w args)
  (Rows.formulaPrintedSpec.post enc prg Tryz.f10 false true false false):=by
 refine wrap (C:=Tryz.checked) (X:=λw _=>laidMet prg laids w) (λ_ _ _ hh h=>h.of_heap hh) own started (by kernel_rfl) Tryz.func10
  (ChangeSpec.witness_shaped (enc:=enc) (C:=Tryz.checked) (os:=os) (X:=λw _=>laidMet prg laids w) false (World.laidAll prg os laids) #[.string ⟨#[]⟩] 8 (World.laidAll_os _ _ _) (laid_shaped os _) (by kernel_rfl) (by kernel_rfl) (by kernel_rfl) (laid_met os _)) ?_
 intro W base args ds gs before hval0 hW hL hS;have GL:=gl_of hL;have G:=gf_of hL;have gq:=gt_of hL;have hval:∀ (j:Nat) t v,Tryz.f10.params[j]? = some t->args[j]? = some v->Value.okWide prg W .any base t v:=hval0;have hW':=hW;obtain ⟨p,q,hA0,hV,rfl,hfz,hnd⟩:=hW;have hA:DataW.TrodAll enc prg W 0 (λ_=>true) true Tryz.f10.params.toList args.toList ds p:=hA0;rw [Tryz.params10] at hA hval;obtain ⟨v0,d0,rfl,rfl,h0⟩:=trodAll_one hA;obtain ⟨rfl,rfl⟩:=trodVars_none hV;have k0:=h0;have hlt0:∀ x∈p,x.block<W.heap.size:=λx hx=>hW'.lt x (by simp [hx]);obtain ⟨l0,e0,hl0⟩:=open_strS (hval 0 9 v0 rfl rfl) h0;subst e0;clear hA0 hval0;simp only [Al_List_append_nil] at hW';refine (formulaPrinted_any (allH W) GL G gq l0 hl0 W (allH_agr W)).mono λe W' ⟨he,hg⟩=>?_;subst he;refine ⟨_,Z,_,_,_,[],p,[],hW',?_,?_,Z,ext_kept hg _,λh=>by cases h⟩
 ·exact trodAll_mk1 (shut_bool Tryz.underlying4 _)
 ·exact trodAll_mk1 (Below.trod laidOut (by kernel_rfl) (Al_of_decide_eq_true (by kernel_rfl)) k0 hg.below hlt0)
end formulaPrinted
end Go.Proofs.YtidclioghdbphaaGreatDoor
