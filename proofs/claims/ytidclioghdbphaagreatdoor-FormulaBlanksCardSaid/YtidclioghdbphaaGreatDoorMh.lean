/- Texts of the proof, one behind the other. -/
import Derived.Test.YtidclioghdbphaaGreatDoorMg
import Derived.Test.YtidclioghdbphaaGreatDoorTie
import Derived.ProofKit
import Derived.OpenShut
import Derived.ShutString
import Derived.Lay
import Derived.Stop.LaidErr
import Derived.Stop.Joined
import Derived.Shelf.Vars
import Derived.Lib.LaidTab
import Derived.Lib.SmallJoins
import Derived.SevenTiedAt
import Derived.Test.YtidclioghdbphaaGreatDoorCards
set_option linter.all false
set_option maxRecDepth 100000
namespace Go.Proofs.YtidclioghdbphaaGreatDoor
open Go.RowKit Go.Par Go.Sx _root_.Go.Proofs.Tryz
section
variable {l:Tks} {r r' r1 r2 ra:Rq} {w w':Str} {k:UInt8} {N x n:Fn} {m:Bool} {i j b:Nat}
theorem kt_t {t:Tk} (h:kt t=(k,w)):t.t=w:=congrArg Prod.snd h
theorem T_no (h:r.er=0/\kt (tkf l r.i)=(k,w)) (hn:¬ w=w'):r.ac l w'=false:=by
 unfold Rq.ac Rq.is;rw [kt_t h.2,Al_decide_eq_false hn,Bool.and_false,Bool.and_false]
def fstW:List Str:=[[91],[41],[95]]
def preWs:List Str:=[[110,111,116],[112,114,101,118,105,111,117,115],[111,110,99,101],[97,108,119,97,121,115],[102,111,114,97,108,108],[101,120,105,115,116,115],[99,111,117,110,116]]
theorem acs_ne {L:List Str} (h:r.ac l w=true) (hn:∀ x∈L,w≠x):∀ x∈L,r.ac l x=false:=λx hx=>acF_ne h (hn x hx)
theorem gd_first {nt:Nt} (g:Gd l nt r n m r'):∀ k,nt=.lev k->r'.er=0->(∀ x∈fstW,r.ac l x=false)/\(6<=k->∀ x∈preWs,r.ac l x=false)/\(k=10->r.ac l [45]=false):=by
 have b0:∀ {nt:Nt} {r r':Rq} {n:Fn} {m:Bool},Gd l nt r n m r'->r'.er=0->r.er=0:=λg e=>Classical.byContradiction λh=>h (by rw [<-gd_er g h];exact e);induction g with
 | seq hk h1 h2 i1 i2 =>
  rintro k' e e2;cases e;obtain ⟨a,b,_⟩:=i1 _ rfl (b0 h2 e2);exact ⟨a,λh=>b (by omega),λh=>by omega⟩
 | outJ=>rintro _ e _;cases e
 | outA=>rintro _ e _;cases e
 | join=>rintro _ e _;cases e
 | ari=>rintro _ e _;cases e
 | @pre w op r r1 x m hp h h1 =>
  rintro k' e e2;cases e;refine ⟨acs_ne h ?_,λh=>by omega,λh=>by omega⟩;have:∀ p∈preW,∀ x∈fstW,p.1≠x:=by decide
  exact this _ hp
 | cnt h =>
  rintro k' e e2;cases e;exact ⟨acs_ne h (by decide),λh=>by omega,λh=>by omega⟩
 | cmp0 hp hc h1 i1 =>
  rintro k' e e2;cases e;exact ⟨(i1 _ rfl e2).1,λh=>by omega,λh=>by omega⟩
 | cm0 h1 h i1 =>
  rintro k' e e2;cases e;exact ⟨(i1 _ rfl e2).1,λ_=>(i1 _ rfl e2).2.1 (by decide),λh=>by omega⟩
 | cm1 hi h1 h h2 i1 i2 =>
  rintro k' e e2;cases e;have e1:=acF_er h;exact ⟨(i1 _ rfl e1).1,λ_=>(i1 _ rfl e1).2.1 (by decide),λh=>by omega⟩
 | neg h =>
  rintro k' e e2;cases e;exact ⟨acs_ne h (by decide),λ_=>acs_ne h (by decide),λh=>by omega⟩
 | pri h h1 i1 =>
  rintro k' e e2;cases e;exact ⟨(i1 _ rfl e2).1,λ_=>(i1 _ rfl e2).2.1 (by decide),λh=>by omega⟩
 | bad h=>rintro k' e e2;exact absurd e2 h
 | num h hk =>
  rintro k' e e2;have:=λw=>k_ac (l:=l) (w:=w) (by rw [hk];decide);exact ⟨λx _=>this x,λ_ x _=>this x,λ_=>this _⟩
 | now h=>rintro k' e e2;exact ⟨acs_ne h (by decide),λ_=>acs_ne h (by decide),λ_=>acF_ne h (by decide)⟩
 | tru h=>rintro k' e e2;exact ⟨acs_ne h (by decide),λ_=>acs_ne h (by decide),λ_=>acF_ne h (by decide)⟩
 | fal h=>rintro k' e e2;exact ⟨acs_ne h (by decide),λ_=>acs_ne h (by decide),λ_=>acF_ne h (by decide)⟩
 | flg h=>rintro k' e e2;exact ⟨acs_ne h (by decide),λ_=>acs_ne h (by decide),λ_=>acF_ne h (by decide)⟩
 | has h=>rintro k' e e2;exact ⟨acs_ne h (by decide),λ_=>acs_ne h (by decide),λ_=>acF_ne h (by decide)⟩
 | arr0 h=>rintro k' e e2;exact ⟨acs_ne h (by decide),λ_=>acs_ne h (by decide),λ_=>acF_ne h (by decide)⟩
 | arr h=>rintro k' e e2;exact ⟨acs_ne h (by decide),λ_=>acs_ne h (by decide),λ_=>acF_ne h (by decide)⟩
 | siz h=>rintro k' e e2;exact ⟨acs_ne h (by decide),λ_=>acs_ne h (by decide),λ_=>acF_ne h (by decide)⟩
 | par h=>rintro k' e e2;exact ⟨acs_ne h (by decide),λ_=>acs_ne h (by decide),λ_=>acF_ne h (by decide)⟩
 | nam0 h hk =>
  rintro k' e e2;have:=λw=>k_ac (l:=l) (w:=w) (by rw [hk];decide);exact ⟨λx _=>this x,λ_ x _=>this x,λ_=>this _⟩
 | nam1 h hk =>
  rintro k' e e2;have:=λw=>k_ac (l:=l) (w:=w) (by rw [hk];decide);exact ⟨λx _=>this x,λ_ x _=>this x,λ_=>this _⟩
 | get h hk =>
  rintro k' e e2;have:=λw=>k_ac (l:=l) (w:=w) (by rw [hk];decide);exact ⟨λx _=>this x,λ_ x _=>this x,λ_=>this _⟩
 | non=>rintro k' e e2;exact absurd e2 (fail_er (by decide))
 | arU=>rintro _ e _;cases e
 | arT=>rintro _ e _;cases e
 | afC=>rintro _ e _;cases e
 | afE=>rintro _ e _;cases e
def cuL:List (Nat × Str):=[(20,[46]),(20,[91]),(1,[105,109,112,108,105,101,115]),(2,[111,114]),(3,[97,110,100]),(4,[115,105,110,99,101]),(6,[61,61]),(6,[33,61]),(6,[60]),(6,[60,61]),(6,[62]),(6,[62,61]),(7,[43]),(7,[45]),(8,[42]),(8,[47]),(8,[37])]
def Nx (l:Tks) (k:Nat) (r:Rq):Prop:=∀ x∈cuL,k<=x.1->r.ac l x.2=false
theorem Nx.up (h:Nx l i r) (hj:i<=j):Nx l j r:=λx hx hk=>h x hx (Al_Nat_le_trans hj hk)
theorem Nx.tok (h:r.er=0/\kt (tkf l r.i)=(k,w)) (hn:∀ x∈cuL,j<=x.1->¬ w=x.2):Nx l j r:=λx hx hk=>T_no h (hn x hx hk)
def lpB (j:Nat):Prop:=(1<=j/\j<=4)\/j=7\/j=8
theorem jo_mem (h:1<=j/\j<=4):(j,joW j)∈cuL:=by
 have:j=1\/j=2\/j=3\/j=4:=by omega
 rcases this with rfl | rfl | rfl | rfl <;> decide
theorem ari_mem (h:ariK j i):(j,fsyms.getD i [])∈cuL:=by
 rcases h with ⟨rfl,rfl | rfl⟩ | ⟨rfl,rfl | rfl | rfl⟩ <;> decide
theorem cmp_mem (h:16<=i) (h2:i<=21):(6,fsyms.getD i [])∈cuL:=by
 have:i=16\/i=17\/i=18\/i=19\/i=20\/i=21:=by omega
 rcases this with rfl | rfl | rfl | rfl | rfl | rfl <;> decide
def Rl (l:Tks) (j:Nat) (r:Rq) (N:Fn) (r':Rq):Prop:=(lpB j->∀ n m r2,Gd l (.lp j N) r' n m r2->Gd l (.lev j) r n m r2)/\(¬ lpB j->Gd l (.lev j) r N false r')
theorem Rl.full (h:Rl l j r N r') (hx:Nx l j r'):Gd l (.lev j) r N false r':=by
 by_cases hj:lpB j
 ·refine h.1 hj _ _ _ ?_;rcases hj with hj | hj
  ·exact .outJ hj (hx _ (jo_mem hj) (Al_Nat_le_refl _))
  ·exact .outA hj λi hi=>hx _ (ari_mem hi) (Al_Nat_le_refl _)
 ·exact h.2 hj
theorem Rl.dn (h:Gd l (.lev (j+1)) r N false r') (e:r'.er=0) (hj:1<=j/\j<=9) (hx:j=6->Nx l 6 r'):Rl l j r N r':=by
 refine ⟨λhl n m r2 g=>?_,λhl=>?_⟩
 ·exact Gd.seq hl h g
 ·obtain ⟨f1,f2,f3⟩:=gd_first h _ rfl e;have:j=5\/j=6\/j=9:=by unfold lpB at hl;omega
  rcases this with rfl | rfl | rfl
  ·have f2:=f2 (by decide);refine .cmp0 (λw op hw=>f2 w ?_) (f2 _ (by decide)) h;have:∀ p∈preW,p.1∈preWs:=by decide
   exact this _ hw
  ·exact .cm0 h λi h1 h2=>hx Z _ (cmp_mem h1 h2) (Al_Nat_le_refl _)
  ·exact .pri (f3 Z) h
theorem Rl.go:∀ {d j:Nat},Rl l (j+d) r N r'->r'.er=0->1<=j->j+d<=10->Nx l (j+1) r'->(j<=6->Nx l 6 r')->Rl l j r N r'
 | 0,_,h,_,_,_,_,_=>h
 | d+1,j,h,e,h1,hb,hx,h6=>by
  have k:=Rl.go (j:=j+1) (d:=d) (by rw [show j+1+d=j+(d+1) by omega];exact h) e (by omega) (by omega) (hx.up (by omega)) (λhj=>h6 (by omega));exact .dn (k.full hx) e ⟨h1,by omega⟩ (λe=>h6 (by omega))
theorem Rl.to (h:Rl l b r N r') (e:r'.er=0) (h1:1<=j) (hj:j<=b) (hb:b<=10) (hx:Nx l (j+1) r') (h6:j<=6->Nx l 6 r'):Rl l j r N r':=by
 obtain ⟨d,rfl⟩:∃ d,b=j+d:=⟨b - j,by omega⟩;exact h.go e h1 hb hx h6
theorem Rl.at (h:Rl l b r N r') (e:r'.er=0) (h1:1<=j) (hj:j<=b) (hb:b<=10) (hx:Nx l j r'):Gd l (.lev j) r N false r':=(h.to e h1 hj hb (hx.up (by omega)) (λk=>hx.up k)).full hx
end
section
variable {l:Tks} {r r' ra m:Rq} {w w':Str} {i j:Nat}
end
variable {r:Str} {ks:List Kt}
variable {s:Str}
theorem LxN.app {q:List Kt} (h:LxN s q) (hr:sepB r) (hk:Lx r ks):Lx (s++r) (q++ks):=(h r ks hr hk).1
section
variable {l:Tks} {r r' ra m:Rq} {w w':Str} {i j:Nat}
end
variable {f:Fm}
theorem fcheck_ok (h:fcheck f=0):f.count<=60/\Fm.all shalB f=true/\Fm.all namdB f=true/\Fm.all formB f=true:=by
 unfold fcheck at h
 split at h
 ·cases h
 rename_i h1
 split at h
 ·cases h
 rename_i h2
 split at h
 ·cases h
 rename_i h3;rw [Al_not_or] at h1;exact ⟨by omega,by simpa using h1.2,by simpa using h2,by simpa using h3⟩
def nsE (e:Ex):Bool:=Ex.all (λe=>decide (e.nm.length<=30)) e
theorem mis_ns (e:Ex):misB e=false->termB e=true->nsE e=true:=by
 induction e using Ex.ind with | _ op nm n args ih
 intro h ht;obtain ⟨m1,_,m3⟩:=mis_op h;unfold nsE;rw [all_mk,alls_allE,Al_Bool_and_eq_true,Al_decide_eq_true_eq,Al_List_all_eq_true]
 have nm30:(op=5\/op=6\/op=8)->nm.length<=30:=λho=>by
  have k:=m1 ho;unfold nmQ at k;cases hs:splitF nm with
  | none=>rw [hs] at k;have:=(nameB_facts k).2.2.2.2;omega
  | some x =>
   obtain ⟨a,b⟩:=x;rw [hs] at k;simp only [Al_Bool_and_eq_true] at k;have k1:=(nameB_facts k.1).2.2.2.2;have k2:=(nameB_facts k.2).2.2.2.2;rw [splitF_back hs,Al_List_length_append,Al_List_length_append];show a.length+1+b.length<=30;omega
 show nm.length<=30/\_;rcases trm_op ht with ⟨rfl,rfl,_,rfl⟩ | ⟨rfl,rfl,_,rfl⟩ | ⟨ho,_,rfl⟩ | ⟨rfl,_,a,rfl,ha⟩ | ⟨rfl,rfl,_,a,rfl,ha⟩ | ⟨_,rfl,_,a,b,rfl,ha,hb⟩
 ·exact ⟨by decide,λx hx=>(by cases hx)⟩
 ·exact ⟨by decide,λx hx=>(by cases hx)⟩
 ·exact ⟨nm30 (by rcases ho with h | h <;> simp [h]),λx hx=>(by cases hx)⟩
 ·exact ⟨nm30 (by simp),λx hx=>by rw [Al_List_mem_singleton.1 hx];exact ih a (by simp) (m3 a (by simp)) ha⟩
 ·exact ⟨by decide,λx hx=>by rw [Al_List_mem_singleton.1 hx];exact ih a (by simp) (m3 a (by simp)) ha⟩
 ·refine ⟨by decide,λx hx=>?_⟩;simp only [Al_List_mem_cons,List.not_mem_nil,or_false] at hx;rcases hx with rfl | rfl
  ·exact ih _ (by simp) (m3 _ (by simp)) ha
  ·exact ih _ (by simp) (m3 _ (by simp)) hb
theorem trm_bl (e:Ex):termB e=true->blE 4 e=true:=by
 induction e using Ex.ind with | _ op nm n args ih
 intro ht;refine blE_mk.2 ?_;rcases trm_op ht with ⟨_,_,_,rfl⟩ | ⟨_,_,_,rfl⟩ | ⟨_,_,rfl⟩ | ⟨_,_,a,rfl,ha⟩ | ⟨_,_,_,a,rfl,ha⟩ | ⟨_,_,_,a,b,rfl,ha,hb⟩
 ·exact ⟨by decide,λx hx=>(by cases hx)⟩
 ·exact ⟨by decide,λx hx=>(by cases hx)⟩
 ·exact ⟨by decide,λx hx=>(by cases hx)⟩
 ·exact ⟨(by decide:1<=4),λx hx=>by rw [Al_List_mem_singleton.1 hx];exact ih a (by simp) ha⟩
 ·exact ⟨(by decide:1<=4),λx hx=>by rw [Al_List_mem_singleton.1 hx];exact ih a (by simp) ha⟩
 ·refine ⟨(by decide:2<=4),λx hx=>?_⟩;simp only [Al_List_mem_cons,List.not_mem_nil,or_false] at hx;rcases hx with rfl | rfl
  ·exact ih _ (by simp) ha
  ·exact ih _ (by simp) hb
theorem good_bl (f:Fm):Fm.all formB f=true->blF 4 f=true:=by
 induction f using Fm.ind with | _ op nm fd a b ex args ih
 intro hf;obtain ⟨hf,hfs⟩:=form_all hf;have hg:=form_of hf;refine blF_mk.2 ⟨?_,λg hg=>ih g hg (hfs g hg)⟩;have z:∀ x∈([]:List Ex),blE 4 x=true:=λx hx=>(by cases hx);cases hg with
 | tf=>exact ⟨by decide,by decide,z⟩
 | @cmp o x y h hx hy =>
  refine ⟨(by decide:1<=4),by decide,λe he=>?_⟩;rw [Al_List_mem_singleton.1 he];refine blE_mk.2 ⟨(by decide:2<=4),λe he=>?_⟩;simp only [Al_List_mem_cons,List.not_mem_nil,or_false] at he;rcases he with rfl | rfl
  ·exact trm_bl _ hx
  ·exact trm_bl _ hy
 | var=>exact ⟨by decide,by decide,z⟩
 | has hx=>exact ⟨(by decide:1<=4),by decide,λe he=>by rw [Al_List_mem_singleton.1 he];exact trm_bl _ hx⟩
 | flg=>exact ⟨by decide,by decide,z⟩
 | arr hl hx =>
  refine ⟨hl,by decide,λe he=>?_⟩;rcases hx e he with rfl | h
  ·exact blE_mk.2 ⟨by decide,λx hx=>(by cases hx)⟩
  ·exact trm_bl _ h
 | un=>exact ⟨by decide,(by decide:1<=4),z⟩
 | win=>exact ⟨by decide,(by decide:1<=4),z⟩
 | amo=>exact ⟨by decide,(by decide:1<=4),z⟩
 | cnt=>exact ⟨(by decide:1<=4),(by decide:1<=4),λe he=>by rw [Al_List_mem_singleton.1 he];exact blE_mk.2 ⟨Al_Nat_zero_le _,λx hx=>(by cases hx)⟩⟩
 | bin=>exact ⟨by decide,(by decide:2<=4),z⟩
 | snc=>exact ⟨by decide,(by decide:2<=4),z⟩
theorem chk_bl (h:fcheck f=0):blF 4 f=true:=good_bl f (fcheck_ok h).2.2.2
theorem par_good {l:Tks} {o e:Nat} (h:parF l=(f,o,e)):(e=0->fcheck f=0/\o=0)/\(¬ e=0->f=zF):=by
 unfold parF endP at h
 split at h
 ·rename_i k;cases h;exact ⟨λe=>absurd e k,λ_=>rfl⟩
 split at h
 ·cases h;exact ⟨λe=>(by cases e),λ_=>rfl⟩
 split at h
 ·rename_i k;cases h;exact ⟨λe=>absurd e k,λ_=>rfl⟩
 ·rename_i k;cases h;exact ⟨λ_=>⟨Al_Classical_not_not.1 k,Z⟩,λe=>absurd rfl e⟩
theorem Fx.call24:callN prg 24=true:=by kernel_rfl
theorem take_min {α:Type} (l:List α) (k:Nat):l.take (min l.length k)=l.take k:=by
 by_cases h:l.length<=k
 ·rw [Al_Nat_min_eq_left h,Al_List_take_length,Al_List_take_of_length_le h]
 ·rw [Al_Nat_min_eq_right (by omega)]
theorem take_short (n:Str):(n.take 400).length<=400000:=by rw [Al_List_length_take];omega
theorem short_any (H:Hp) (n:Str) (hn:n.length<=9223372036854775807) (w:World) (hA:Agr H w):Calls prg 30 #[strV n] w λr w'=>r=.returned (strV (n.take 400))/\Ext w w':=by
 refine Sx.enter (H:=H) func30 rfl ntmps30 rfl hA ?_;refine .sr<|.a Z Z<|.ns<|.mv Z<|.mv Z<|.yw (.lenS Fx.str9 Z)<|.yw (.min2 Z Z (c:=((min n.length 400:Nat):Int)) (by omega))<|.yw (.takeS Fx.str9 Z Z (hi:=min n.length 400) Z (by omega))<|.az Z<|?_
 exact y9 Z Z λW s=>⟨by rw [show n.take (min n.length 400)=n.take 400 from take_min n 400];rfl,s.ext⟩
theorem fparse_is (H:Hp) (GL:Gl H) (G:Gf H) (t:Str) (f:Fm) (o e:Nat) (hl:t.length<=400000) (hp:parF (tksF t)=(f,o,e)) (w:World) (hA:Agr H w) :
 Calls prg 26 #[strV t] w λr W'=>∃ (cs:List Value) (H':Hp),Rep H' (dFm .u8 f) cs/\r=.returned (.tuple #[.agg cs.toArray,iN o,iN e])/\Grow H w H' W':=by
 have h:=fparse_any H GL G t hl w hA;rw [hp] at h;exact h
theorem blk_of {c:UInt8} (h:(c.toNat:Int)=32\/(c.toNat:Int)=9\/(c.toNat:Int)=10\/(c.toNat:Int)=13):blkB c=true:=by
 simp only [blkB,Al_Bool_or_eq_true,Al_decide_eq_true_eq,<-Al_UInt8_toNat_inj];rcases h with h | h | h | h
 ·exact .inl (.inl (.inl (by show c.toNat=32;omega)))
 ·exact .inl (.inl (.inr (by show c.toNat=9;omega)))
 ·exact .inl (.inr (by show c.toNat=10;omega))
 ·exact .inr (by show c.toNat=13;omega)
theorem nblk_of {c:UInt8} (h:¬ ((c.toNat:Int)=32\/(c.toNat:Int)=9\/(c.toNat:Int)=10\/(c.toNat:Int)=13)):blkB c=false:=by
 cases e:blkB c with
 | false=>rfl
 | true =>
  refine absurd ?_ h;simp only [blkB,Al_Bool_or_eq_true,Al_decide_eq_true_eq] at e;rcases e with ((e | e) | e) | e <;> subst e <;> simp
variable {k:Nat}
theorem skip_blk {R:Str} (hk:k<s.length) (hb:blkB s[k]=true) (h:skipS false (s.drop k)=R):skipS false (s.drop (k+1))=R:=by
 rw [Al_List_drop_eq_getElem_cons hk,skipS_blk hb] at h;exact h
theorem skip_in {R:Str} (hk:k+1<s.length) (h1:(s[k].toNat:Int)=47) (h2:(s[k+1].toNat:Int)=47) (h:skipS false (s.drop k)=R):skipS true (s.drop k)=R:=by
 have e1:s[k]=47:=Al_UInt8_toNat_inj.1 (by show s[k].toNat=47;omega);have e2:s[k+1]=47:=Al_UInt8_toNat_inj.1 (by show s[k+1].toNat=47;omega);rw [Al_List_drop_eq_getElem_cons (show k<s.length by omega),Al_List_drop_eq_getElem_cons hk,e1,e2] at h|-;rw [<-skipS_two];exact h
theorem skip_com {R:Str} (hk:k<s.length) (hb:¬ (s[k].toNat:Int)=10) (h:skipS true (s.drop k)=R):skipS true (s.drop (k+1))=R:=by
 rw [Al_List_drop_eq_getElem_cons hk,skipS_com (λe=>hb (by rw [e];rfl))] at h;exact h
theorem skip_out1 {R:Str} (hk:s.length<=k) (h:skipS true (s.drop k)=R):skipS false (s.drop k)=R:=by
 rw [Al_List_drop_of_length_le hk,skipS_nil] at h|-;exact h
theorem skip_out2 {R:Str} (hk:k<s.length) (hb:(s[k].toNat:Int)=10) (h:skipS true (s.drop k)=R):skipS false (s.drop k)=R:=by
 have e1:s[k]=10:=Al_UInt8_toNat_inj.1 (by show s[k].toNat=10;omega);rw [Al_List_drop_eq_getElem_cons hk,e1] at h|-;rw [<-skipS_end];exact h
theorem stop_no (hk:k<s.length) (hb:blkB s[k]=false) (h:¬ (s[k].toNat:Int)=47\/¬ k+1<s.length\/∃ h:k+1<s.length,¬ (s[k+1].toNat:Int)=47):skipS false (s.drop k)=s.drop k:=by
 rw [Al_List_drop_eq_getElem_cons hk];refine skipS_stop hb ?_;rintro ⟨e1,e2⟩;rcases h with h | h | ⟨h0,h⟩
 ·exact h (by rw [e1];rfl)
 ·rw [Al_List_drop_of_length_le (by omega)] at e2;cases e2
 ·rw [Al_List_drop_eq_getElem_cons h0] at e2;exact h (by rw [Al_Option_some_inj e2];rfl)
theorem stop_end (hk:s.length<=k):skipS false (s.drop k)=s.drop k:=by rw [Al_List_drop_of_length_le hk,skipS_nil]
theorem stop_val {R:Str} (hk:k<=s.length) (h:skipS false (s.drop k)=R) (h2:skipS false (s.drop k)=s.drop k):s.length - R.length=k:=by
 rw [<-h,h2,Al_List_length_drop];omega
theorem skip_any (s:Str) (hl:s.length<=1000000) (o:Nat) (ho:o<=s.length) (w:World) :
 Calls prg 67 #[strV s,iN o] w λr w'=>r=.returned (.int .i64 ((s.length - (skipS false (s.drop o)).length:Nat):Int))/\Ext w w':=by
 refine y6 func67 Z ntmps67 Z ?_;refine .sr<|.aq Z<|.sq<|.bk<|.lp (X:=Nat) [(0,_)] ⟨Z,Jt⟩ [] (λk=>[(1,iN k)]) (λk=>(⟨λ_=>none,0⟩:Hp)) (λk=>[]) (λk=>k<=s.length/\skipS false (s.drop k)=skipS false (s.drop o)) (λk=>s.length - k) o (λ_ s=>s) ⟨Z,Jt⟩ ⟨ho,Z⟩ λk hC=>?_
 obtain ⟨hk0,hC2⟩:=hC;refine .sq<|.sm Z<|.mv Z<|.yw (.lenS Fx.str9 Z)<|.yw (.lss Z Z)<|.nt<|.ce Z (λh8=>?_) (λh8=>?_)
 ·have hk:k<s.length:=by omega
  refine .sk<|.tN<|.bk<|.sm Z<|.mv Z<|.yw (.idxS Fx.str9 Z Z Z (b:=s[k]) (j:=k) (List.getElem?_eq_getElem hk))<|.yw (.eql Z Z)<|.mv Z<|.e2 (λh13=>?_) (λh13=>?_)
  ·exact .gG<|.gG<|.gG<|.gG<|.yw (.pickT Z Z)<|.mv Z<|.gG<|.gG<|.gG<|.gG<|.yw (.pickT Z Z)<|.mv Z<|.gG<|.gG<|.gG<|.gG<|.yw (.pickT Z Z)<|.nt<|.cT Z<|.rg<|.mv Z<|.yw (.add Z Z w7)<|.a Z Z<|.nl<|.bN<|.tN<|.ag (k+1) ⟨Z,Jt⟩ ⟨Z,Jt⟩ (λ_ s=>s) ⟨by omega,skip_blk (by omega) (blk_of (by omega)) hC2⟩ (by first | omega | (have:j≠k:=λe=>by subst e;omega);omega)
  refine .gy (.move Z)<|.gy (.move Z)<|.gy (.idxS Fx.str9 Z Z Z (b:=s[k]) (j:=k) (List.getElem?_eq_getElem hk))<|.gy (.eql Z Z)<|.yw (.pickF Z Z)<|.mv Z<|.e2 (λh19=>?_) (λh19=>?_)
  ·exact .gG<|.gG<|.gG<|.gG<|.yw (.pickT Z Z)<|.mv Z<|.gG<|.gG<|.gG<|.gG<|.yw (.pickT Z Z)<|.nt<|.cT Z<|.rg<|.mv Z<|.yw (.add Z Z w7)<|.a Z Z<|.nl<|.bN<|.tN<|.ag (k+1) ⟨Z,Jt⟩ ⟨Z,Jt⟩ (λ_ s=>s) ⟨by omega,skip_blk (by omega) (blk_of (by omega)) hC2⟩ (by first | omega | (have:j≠k:=λe=>by subst e;omega);omega)
  refine .gy (.move Z)<|.gy (.move Z)<|.gy (.idxS Fx.str9 Z Z Z (b:=s[k]) (j:=k) (List.getElem?_eq_getElem hk))<|.gy (.eql Z Z)<|.yw (.pickF Z Z)<|.mv Z<|.e2 (λh25=>?_) (λh25=>?_)
  ·exact .gG<|.gG<|.gG<|.gG<|.yw (.pickT Z Z)<|.nt<|.cT Z<|.rg<|.mv Z<|.yw (.add Z Z w7)<|.a Z Z<|.nl<|.bN<|.tN<|.ag (k+1) ⟨Z,Jt⟩ ⟨Z,Jt⟩ (λ_ s=>s) ⟨by omega,skip_blk (by omega) (blk_of (by omega)) hC2⟩ (by first | omega | (have:j≠k:=λe=>by subst e;omega);omega)
  refine .gy (.move Z)<|.gy (.move Z)<|.gy (.idxS Fx.str9 Z Z Z (b:=s[k]) (j:=k) (List.getElem?_eq_getElem hk))<|.gy (.eql Z Z)<|.yw (.pickF Z Z)<|.nt<|.ce Z (λh30=>?_) (λh30=>?_)
  ·exact .rg<|.mv Z<|.yw (.add Z Z w7)<|.a Z Z<|.nl<|.bN<|.tN<|.ag (k+1) ⟨Z,Jt⟩ ⟨Z,Jt⟩ (λ_ s=>s) ⟨by omega,skip_blk (by omega) (blk_of (by omega)) hC2⟩ (by first | omega | (have:j≠k:=λe=>by subst e;omega);omega)
  refine .sm Z<|.yw (.add Z Z w7)<|.mv Z<|.yw (.lenS Fx.str9 Z)<|.yw (.lss Z Z)<|.mv Z<|.e2 (λh38=>?_) (λh38=>?_)
  ·have hk1:k+1<s.length:=by omega
   refine .gy (.move Z)<|.gy (.move Z)<|.gy (.idxS Fx.str9 Z Z Z (b:=s[k]) (j:=k) (List.getElem?_eq_getElem hk))<|.gy (.eql Z Z)<|.yw (.pickT Z Z)<|.mv Z<|.e2 (λh44=>?_) (λh44=>?_)
   ·refine .gy (.move Z)<|.gy (.move Z)<|.gy (.add Z Z w7)<|.gy (.idxS Fx.str9 Z Z (by omega) (b:=s[(k+1)]) (j:=(k+1)) (List.getElem?_eq_getElem hk1))<|.gy (.eql Z Z)<|.yw (.pickT Z Z)<|.nt<|.ce Z (λh50=>?_) (λh50=>?_)
    ·refine .bk<|.lp (X:=Nat) [(0,_)] ⟨Z,Jt⟩ [] (λj=>[(1,iN j)]) (λj=>(⟨λ_=>none,0⟩:Hp)) (λj=>[]) (λj=>k<=j/\j<=s.length/\skipS true (s.drop j)=skipS false (s.drop o)) (λj=>s.length - j) k (λ_ s=>s) ⟨Z,Jt⟩ ⟨by omega,by omega,skip_in (by omega) (by omega) (by omega) hC2⟩ λj hC=>?_
     obtain ⟨hj0,hj1,hC3⟩:=hC;refine .sq<|.sm Z<|.mv Z<|.yw (.lenS Fx.str9 Z)<|.yw (.lss Z Z)<|.mv Z<|.e2 (λh55=>?_) (λh55=>?_)
     ·have hj:j<s.length:=by omega
      refine .gy (.move Z)<|.gy (.move Z)<|.gy (.idxS Fx.str9 Z Z Z (b:=s[j]) (j:=j) (List.getElem?_eq_getElem hj))<|.gy (.neq Z Z)<|.yw (.pickT Z Z)<|.nt<|.ce Z (λh60=>?_) (λh60=>?_)
      ·exact .sk<|.tN<|.bk<|.rg<|.mv Z<|.yw (.add Z Z w7)<|.a Z Z<|.nl<|.bN<|.tN<|.ag (j+1) ⟨Z,Jt⟩ ⟨Z,Jt⟩ (λ_ s=>s) ⟨by omega,by omega,skip_com (by omega) (by omega) hC3⟩ (by omega)
      exact .ex<|.tE<|.tE<|.bE<|.bN<|.tN<|.ag j ⟨Z,Jt⟩ ⟨Z,Jt⟩ (λ_ s=>s) ⟨by omega,by first | exact skip_out1 (by omega) hC3 | exact skip_out2 (show j<s.length by omega) (by omega) hC3⟩ (by first | omega | (have:j≠k:=λe=>by subst e;omega);omega)
     exact .gG<|.gG<|.gG<|.gG<|.yw (.pickF Z Z)<|.nt<|.cF Z<|.ex<|.tE<|.tE<|.bE<|.bN<|.tN<|.ag j ⟨Z,Jt⟩ ⟨Z,Jt⟩ (λ_ s=>s) ⟨by omega,by first | exact skip_out1 (by omega) hC3 | exact skip_out2 (show j<s.length by omega) (by omega) hC3⟩ (by first | omega | (have:j≠k:=λe=>by subst e;omega);omega)
    refine .sm Z<|.az Z<|.bR<|.tR<|.bR<|.tR<|?_
    refine y9 Z Z λW s=>⟨?_,s.ext⟩
    first
     | (rw [stop_val hk0 hC2 (stop_no hk (nblk_of (by omega)) (.inl (by omega)))])
     | (rw [stop_val hk0 hC2 (stop_no hk (nblk_of (by omega)) (.inr (.inl (by omega))))])
     | (rw [stop_val hk0 hC2 (stop_no hk (nblk_of (by omega)) (.inr (.inr ⟨hk1,by omega⟩)))])
     | (rw [stop_val hk0 hC2 (stop_end (by omega))])
   refine .gG<|.gG<|.gG<|.gG<|.gG<|.yw (.pickF Z Z)<|.nt<|.cF Z<|.sm Z<|.az Z<|.bR<|.tR<|.bR<|.tR<|?_
   refine y9 Z Z λW s=>⟨?_,s.ext⟩
   first
    | (rw [stop_val hk0 hC2 (stop_no hk (nblk_of (by omega)) (.inl (by omega)))])
    | (rw [stop_val hk0 hC2 (stop_no hk (nblk_of (by omega)) (.inr (.inl (by omega))))])
    | (rw [stop_val hk0 hC2 (stop_no hk (nblk_of (by omega)) (.inr (.inr ⟨hk1,by omega⟩)))])
    | (rw [stop_val hk0 hC2 (stop_end (by omega))])
  refine .gG<|.gG<|.gG<|.gG<|.yw (.pickF Z Z)<|.mv Z<|.gG<|.gG<|.gG<|.gG<|.gG<|.yw (.pickF Z Z)<|.nt<|.cF Z<|.sm Z<|.az Z<|.bR<|.tR<|.bR<|.tR<|?_
  refine y9 Z Z λW s=>⟨?_,s.ext⟩
  first
   | (rw [stop_val hk0 hC2 (stop_no hk (nblk_of (by omega)) (.inl (by omega)))])
   | (rw [stop_val hk0 hC2 (stop_no hk (nblk_of (by omega)) (.inr (.inl (by omega))))])
   | (rw [stop_val hk0 hC2 (stop_no hk (nblk_of (by omega)) (.inr (.inr ⟨hk1,by omega⟩)))])
   | (rw [stop_val hk0 hC2 (stop_end (by omega))])
 obtain rfl:k=s.length:=by omega
 refine .ex<|.eb<|.sm Z<|.az Z<|?_
 refine y9 Z Z λW s=>⟨?_,s.ext⟩
 first
  | (rw [stop_val hk0 hC2 (stop_no hk (nblk_of (by omega)) (.inl (by omega)))])
  | (rw [stop_val hk0 hC2 (stop_no hk (nblk_of (by omega)) (.inr (.inl (by omega))))])
  | (rw [stop_val hk0 hC2 (stop_no hk (nblk_of (by omega)) (.inr (.inr ⟨hk1,by omega⟩)))])
  | (rw [stop_val hk0 hC2 (stop_end (by omega))])
theorem keywordsR_any (H:Hp) (w:World) (hA:Agr H w):Calls prg 126 #[] w λr w'=>∃ (b:Nat) (H':Hp),MemAt H' b 0 (words.map strV)/\r=.returned (.slice (some ⟨b,0,none⟩) 39 39)/\Grow H w H' w':=by
 refine Sx.enter (H:=H) func126 rfl ntmps126 rfl hA ?_;refine .sr<|.a Z Z<|.ns<|.bl Z (Fx.bsl71_39 _ _ _ _ _ _ _ _ _ _ _ _ _ _ _ _ _ _ _ _ _ _ _ _ _ _ _ _ _ _ _ _ _ _ _ _ _ _ _) Z λb1=>?_
 refine freezeBox λH1 u1 m1=>?_;refine .az Z<|?_
 exact y9 Z Z λW s=>⟨b1,H1,m1,Z,u1.grow s⟩
theorem symbolsR_any (H:Hp) (w:World) (hA:Agr H w):Calls prg 127 #[] w λr w'=>∃ (b:Nat) (H':Hp),MemAt H' b 0 (symbols.map strV)/\r=.returned (.slice (some ⟨b,0,none⟩) 25 25)/\Grow H w H' w':=by
 refine Sx.enter (H:=H) func127 rfl ntmps127 rfl hA ?_;refine .sr<|.a Z Z<|.ns<|.bl Z (Fx.bsl71_25 _ _ _ _ _ _ _ _ _ _ _ _ _ _ _ _ _ _ _ _ _ _ _ _ _) Z λb1=>?_
 refine freezeBox λH1 u1 m1=>?_;refine .az Z<|?_
 exact y9 Z Z λW s=>⟨b1,H1,m1,Z,u1.grow s⟩
theorem ins_of {c:UInt8} (h:letB c=true\/digB c=true\/(c.toNat:Int)=95):insB c=true:=by
 simp only [insB,Al_Bool_or_eq_true,Al_decide_eq_true_eq];rcases h with h | h | h
 ·exact .inl (.inl h)
 ·exact .inl (.inr h)
 ·exact .inr (by omega)
theorem nins_of {c:UInt8} (h1:letB c=false) (h2:digB c=false) (h3:¬ (c.toNat:Int)=95):insB c=false:=by
 simp only [insB,Al_Bool_or_eq_false_iff,Al_decide_eq_false_iff_not];exact ⟨⟨h1,h2⟩,by omega⟩
theorem pre_end {q:UInt8->Bool} {l:Str} (h:k<=pre q l) (hk:¬ k<l.length):k=pre q l:=by
 have:=pre_le q l;omega
theorem mid_take (s:Str) (o n:Nat):(s.take (o+n)).drop o=(s.drop o).take n:=by
 rw [Al_List_drop_take,Al_Nat_add_sub_cancel_left]
theorem sym_take {l x:Str} (h:symbols.find? (λx=>x.isPrefixOf l)=some x):l.take x.length=x:=by
 have h1:=List.find?_some (p:=λ(x:Str)=>x.isPrefixOf l) h;obtain ⟨t,ht⟩:=Al_List_isPrefixOf_iff_prefix.1 h1;rw [<-ht,Al_List_take_left]
theorem word_in {l:Str} (hk:k<39) (h:words.getD k []=l):words.contains l=true:=by
 rw [Al_List_contains_iff_mem,<-h,getD_at (show k<words.length from hk)];exact Al_List_getElem_mem _
theorem word_no {l:Str} (h:∀ j,j<39->words.getD j []≠l):words.contains l=false:=by
 rw [Bool.eq_false_iff,Ne,Al_List_contains_iff_mem];intro hm;obtain ⟨j,hj,e⟩:=Al_List_mem_iff_getElem.1 hm;exact h j hj (by rw [getD_at hj];exact e)
theorem next_any (H:Hp) (s:Str) (hl:s.length<=1000000) (o:Nat) (ho:o<s.length) (w:World) (hA:Agr H w) :
 Calls prg 68 #[strV s,iN o] w λr w'=>r=.returned (.agg [iN ((readK (s.drop o)).1.toNat),strV ((s.drop o).take (readK (s.drop o)).2),iN o].toArray)/\Ext w w':=by
 obtain ⟨l,hm⟩:∃ l,l=s.drop o:=⟨_,Z⟩;rw [<-hm];have hlen:o+l.length=s.length:=by rw [hm,Al_List_length_drop];omega
 have hget:∀ k (h:k<l.length),s[o+k]? = some l[k]:=λk h=>by rw [<-List.getElem?_drop,<-hm,List.getElem?_eq_getElem h]
 cases l with
 | nil=>simp only [Al_List_length_nil] at hlen;omega
 | cons c m =>
 have hlen2:(c::m).length=m.length+1:=rfl;refine Sx.enter (H:=H) func68 rfl ntmps68 rfl hA ?_;refine .sr<|.al Fx.zero70 Z λb4=>.ns<|.mv Z<|.aq Z<|.sq<|.sm Z<|.mv Z<|.yw (.idxS Fx.str9 Z Z Z (b:=c) (j:=o) (by rw [<-Al_Nat_add_zero o];exact hget 0 (by simp)))<|.yw (.call Fx.call124 Z (λW s=>rletter_any _ W))<|.nt<|.cd Z (λh15=>?_) (λh15=>?_)
 ·refine .cu (X:=Unit) [(0,_),(1,_),(4,_)] ⟨Z,Z,Z,Jt⟩ (λz=>[(5,.int .i64 ((o+pre insB (c::m):Nat):Int))]) (λz=>H) (λz=>[.box b4 [.int .i64 0,.string ⟨#[]⟩,.int .i64 0] 70]) (λz=>True) ?_ λz hC=>?_
  ·
   refine .bk<|.lp (X:=Nat) [(0,_),(1,_),(4,_)] ⟨Z,Z,Z,Jt⟩ [_] (λk=>[(5,.int .i64 ((o+k:Nat):Int))]) (λk=>H) (λk=>[]) (λk=>k<=pre insB (c::m)) (λk=>pre insB (c::m) - k) 0 (λ_ s=>s) ⟨Z,Jt⟩ (by omega) λk hC=>?_
   refine .sq<|.sm Z<|.mv Z<|.yw (.lenS Fx.str9 Z)<|.yw (.lss Z Z)<|.mv Z<|.e2 (λh20=>?_) (λh20=>?_)
   ·have hk:k<(c::m).length:=by omega
    refine .gy (.move Z)<|.gy (.move Z)<|.gy (.idxS Fx.str9 Z Z Z (b:=(c::m)[k]) (j:=o+k) (hget k hk))<|.gy (.call Fx.call124 Z (λW s=>rletter_any _ W))<|.gy (.move Z)<|.b2 (λh25=>?_) (λh25=>?_)
    ·exact .gG<|.gG<|.gG<|.gG<|.gy (.pickT Z Z)<|.gy (.move Z)<|.gG<|.gG<|.gG<|.gG<|.gy (.pickT Z Z)<|.yw (.pickT Z Z)<|.nt<|.cT Z<|.sk<|.tN<|.bk<|.rg<|.mv Z<|.yw (.add Z Z (c:=((o+(k+1):Nat):Int)) ((w6 (by omega)).trans (by omega)))<|.a Z Z<|.nl<|.bN<|.tN<|.ag (k+1) ⟨Z,Jt⟩ ⟨Z,Z,Z,Jt⟩ (λ_ s=>s) (pre_step hk hC (ins_of (by first | exact .inl (by assumption) | exact .inr (.inl (by assumption)) | exact .inr (.inr (by omega))))) (by have:=pre_step hk hC (ins_of (by first | exact .inl (by assumption) | exact .inr (.inl (by assumption)) | exact .inr (.inr (by omega))));omega)
    refine .gy (.move Z)<|.gy (.move Z)<|.gy (.idxS Fx.str9 Z Z Z (b:=(c::m)[k]) (j:=o+k) (hget k hk))<|.gy (.call Fx.call125 Z (λW s=>rdigit_any _ W))<|.gy (.pickF Z Z)<|.gy (.move Z)<|.b2 (λh31=>?_) (λh31=>?_)
    ·exact .gG<|.gG<|.gG<|.gG<|.gy (.pickT Z Z)<|.yw (.pickT Z Z)<|.nt<|.cT Z<|.sk<|.tN<|.bk<|.rg<|.mv Z<|.yw (.add Z Z (c:=((o+(k+1):Nat):Int)) ((w6 (by omega)).trans (by omega)))<|.a Z Z<|.nl<|.bN<|.tN<|.ag (k+1) ⟨Z,Jt⟩ ⟨Z,Z,Z,Jt⟩ (λ_ s=>s) (pre_step hk hC (ins_of (by first | exact .inl (by assumption) | exact .inr (.inl (by assumption)) | exact .inr (.inr (by omega))))) (by have:=pre_step hk hC (ins_of (by first | exact .inl (by assumption) | exact .inr (.inl (by assumption)) | exact .inr (.inr (by omega))));omega)
    refine .gy (.move Z)<|.gy (.move Z)<|.gy (.idxS Fx.str9 Z Z Z (b:=(c::m)[k]) (j:=o+k) (hget k hk))<|.gy (.eql Z Z)<|.gy (.pickF Z Z)<|.yw (.pickT Z Z)<|.nt<|.ce Z (λh37=>?_) (λh37=>?_)
    ·exact .sk<|.tN<|.bk<|.rg<|.mv Z<|.yw (.add Z Z (c:=((o+(k+1):Nat):Int)) ((w6 (by omega)).trans (by omega)))<|.a Z Z<|.nl<|.bN<|.tN<|.ag (k+1) ⟨Z,Jt⟩ ⟨Z,Z,Z,Jt⟩ (λ_ s=>s) (pre_step hk hC (ins_of (by first | exact .inl (by assumption) | exact .inr (.inl (by assumption)) | exact .inr (.inr (by omega))))) (by have:=pre_step hk hC (ins_of (by first | exact .inl (by assumption) | exact .inr (.inl (by assumption)) | exact .inr (.inr (by omega))));omega)
    exact .ex<|.eb<|.me () ⟨(by first | (rw [<-pre_end hC (by omega)];rfl) | (rw [<-pre_stop hk hC (by first | exact nins_of (by assumption) (by assumption) (by omega) | assumption)];rfl)),Jt⟩ ⟨Z,Z,Z,Jt⟩ (λ_ s=>s) trivial
   exact .gG<|.gG<|.gG<|.gG<|.gG<|.gV<|.gV<|.gV<|.gV<|.gG<|.gG<|.gV<|.gV<|.gV<|.gV<|.gG<|.yw (.pickF Z Z)<|.nt<|.cF Z<|.ex<|.eb<|.me () ⟨(by first | (rw [<-pre_end hC (by omega)];rfl) | (rw [<-pre_stop hk hC (by first | exact nins_of (by assumption) (by assumption) (by omega) | assumption)];rfl)),Jt⟩ ⟨Z,Z,Z,Jt⟩ (λ_ s=>s) trivial
  refine .sm Z<|.mv Z<|.mv Z<|.yw (.cast (.midS Fx.str9 Z Z Z Z Z (by omega) (by have:=pre_le insB (c::m);omega)) (by rw [mid_take,<-hm]))<|.aq Z<|.sq<|.sr<|.ct (X:=Nat) Fx.call126 Z (λW s=>keywordsR_any H W s.agr) Z λb44 H1 m1 u1=>.yw (.lenSl Fx.sl71 Z)<|.mv Z<|.nt<|.bk<|.lp (X:=Nat) [(0,_),(1,_),(4,_),(5,_),(6,_),(44,_),(45,_)] ⟨Z,Z,Z,Z,Z,Z,Z,Jt⟩ [_] (λk=>[(46,iN k)]) (λk=>H1) (λk=>[]) (λk=>k<=39/\∀ j,j<k->words.getD j []≠((c::m).take (pre insB (c::m)))) (λk=>39 - k) 0 (λ_ s=>s) ⟨Z,Jt⟩ ⟨by omega,λj hj=>by omega⟩ λk hC=>?_
  obtain ⟨hk0,hne⟩:=hC;refine .sr<|.yw (.lss Z Z)<|.nt<|.sq<|.ce Z (λh47=>?_) (λh47=>?_)
  ·refine .sk<|.tN<|.sq<|.bk<|.sr<|.yw (.indexSl Fx.sl71 Z Z Z (by omega) (q:=k) (by omega))<|.yw (.loadM Z Fx.agg9 m1 (k:=k) (by omega) (list_at (by show k<39;omega) []))<|.a Z Z<|.ns<|.mv Z<|.mv Z<|.yw (.eqS Z Z)<|.nt<|.ce Z (λh52=>?_) (λh52=>?_)
   ·have hw:=word_in (by omega) h52;refine .sm Z<|.mv Z<|.yw (.build Z (Fx.bld70_0_1_2 _ _ _))<|.sX .head Z Z Fx.size70 Z<|.zR<|.tR<|.bR<|.tR<|.tR<|?_
    refine y8 Z (.cell Z Fx.agg70 Hm rfl) λW s=>⟨?_,(u1.grow s).ext⟩
    first
     | (simp only [readK,Al_List_headD_cons,h15,hw,Al_if_true,Al_if_false,Al_Bool_false_eq_true];rfl)
     | (simp only [readK,Al_List_headD_cons,h15,hw,Al_if_true,Al_if_false,Al_Bool_false_eq_true,Al_List_take_length];rfl)
     | (simp only [readK,Al_List_headD_cons,h15,hw,hw9,Al_if_true,Al_if_false,Al_Bool_false_eq_true];rfl)
     | (simp only [readK,Al_List_headD_cons,h15,hw,hw9,Al_if_true,Al_if_false,Al_Bool_false_eq_true,Al_List_take_length];rfl)
     | (simp only [readK,Al_List_headD_cons,h15,h71,hor,Al_if_true,Al_if_false,Al_Bool_false_eq_true];rfl)
     | (simp only [readK,Al_List_headD_cons,h15,h71,hor,Al_if_true,Al_if_false,Al_Bool_false_eq_true,Al_List_take_length];rfl)
     | (simp only [readK,Al_List_headD_cons,h15,h71,hfind,Al_if_true,Al_if_false,Al_Bool_false_eq_true];rfl)
     | (simp only [readK,Al_List_headD_cons,h15,h71,hfind,Al_if_true,Al_if_false,Al_Bool_false_eq_true,Al_List_take_length];rfl)
     | (simp only [readK,Al_List_headD_cons,h15,h71,hfind,Al_if_true,Al_if_false,Al_Bool_false_eq_true,sym_take hfind];rfl)
     | (simp only [readK,Al_List_headD_cons,h15,h71,hfind,Al_if_true,Al_if_false,Al_Bool_false_eq_true,Al_List_take_length];rfl)
   exact .sk<|.bN<|.tN<|.rg<|.yw (.add Z Z w7)<|.mv Z<|.nt<|.ag (k+1) ⟨Z,Jt⟩ ⟨Z,Z,Z,Z,Z,Z,Z,Jt⟩ (λ_ s=>s) ⟨by omega,λj hj=>by
   by_cases e:j=k
   ·subst e;exact h52
   ·exact hne j (by omega)⟩ (by omega)
  have hw:=word_no (λj hj=>hne j (by omega));refine .ex<|.eb<|.sq<|.sm Z<|.yw (.lenS Fx.str9 Z)<|.yw (.leq Z Z)<|.nt<|.ce Z (λh59=>?_) (λh59=>?_)
  ·have hw9:pre insB (c::m)<=12:=by have:=pre_le insB (c::m);rw [Al_List_length_take] at h59;omega
   refine .sm Z<|.mv Z<|.yw (.build Z (Fx.bld70_0_1_2 _ _ _))<|.sX .head Z Z Fx.size70 Z<|.nt<|.rt<|.tR<|.tR<|?_
   refine y8 Z (.cell Z Fx.agg70 Hm rfl) λW s=>⟨?_,(u1.grow s).ext⟩
   first
    | (simp only [readK,Al_List_headD_cons,h15,hw,Al_if_true,Al_if_false,Al_Bool_false_eq_true];rfl)
    | (simp only [readK,Al_List_headD_cons,h15,hw,Al_if_true,Al_if_false,Al_Bool_false_eq_true,Al_List_take_length];rfl)
    | (simp only [readK,Al_List_headD_cons,h15,hw,hw9,Al_if_true,Al_if_false,Al_Bool_false_eq_true];rfl)
    | (simp only [readK,Al_List_headD_cons,h15,hw,hw9,Al_if_true,Al_if_false,Al_Bool_false_eq_true,Al_List_take_length];rfl)
    | (simp only [readK,Al_List_headD_cons,h15,h71,hor,Al_if_true,Al_if_false,Al_Bool_false_eq_true];rfl)
    | (simp only [readK,Al_List_headD_cons,h15,h71,hor,Al_if_true,Al_if_false,Al_Bool_false_eq_true,Al_List_take_length];rfl)
    | (simp only [readK,Al_List_headD_cons,h15,h71,hfind,Al_if_true,Al_if_false,Al_Bool_false_eq_true];rfl)
    | (simp only [readK,Al_List_headD_cons,h15,h71,hfind,Al_if_true,Al_if_false,Al_Bool_false_eq_true,Al_List_take_length];rfl)
    | (simp only [readK,Al_List_headD_cons,h15,h71,hfind,Al_if_true,Al_if_false,Al_Bool_false_eq_true,sym_take hfind];rfl)
    | (simp only [readK,Al_List_headD_cons,h15,h71,hfind,Al_if_true,Al_if_false,Al_Bool_false_eq_true,Al_List_take_length];rfl)
  have hw9:¬ pre insB (c::m)<=12:=by have:=pre_le insB (c::m);rw [Al_List_length_take] at h59;omega
  refine .sk<|.tN<|.sm Z<|.mv Z<|.yw (.cast (.dropS Fx.str9 Z Z Z (by omega)) (by rw [<-hm]))<|.mv Z<|.yw (.build Z (Fx.bld70_0_1_2 _ _ _))<|.sX .head Z Z Fx.size70 Z<|.nt<|.rt<|.tR<|?_
  refine y8 Z (.cell Z Fx.agg70 Hm rfl) λW s=>⟨?_,(u1.grow s).ext⟩
  first
   | (simp only [readK,Al_List_headD_cons,h15,hw,Al_if_true,Al_if_false,Al_Bool_false_eq_true];rfl)
   | (simp only [readK,Al_List_headD_cons,h15,hw,Al_if_true,Al_if_false,Al_Bool_false_eq_true,Al_List_take_length];rfl)
   | (simp only [readK,Al_List_headD_cons,h15,hw,hw9,Al_if_true,Al_if_false,Al_Bool_false_eq_true];rfl)
   | (simp only [readK,Al_List_headD_cons,h15,hw,hw9,Al_if_true,Al_if_false,Al_Bool_false_eq_true,Al_List_take_length];rfl)
   | (simp only [readK,Al_List_headD_cons,h15,h71,hor,Al_if_true,Al_if_false,Al_Bool_false_eq_true];rfl)
   | (simp only [readK,Al_List_headD_cons,h15,h71,hor,Al_if_true,Al_if_false,Al_Bool_false_eq_true,Al_List_take_length];rfl)
   | (simp only [readK,Al_List_headD_cons,h15,h71,hfind,Al_if_true,Al_if_false,Al_Bool_false_eq_true];rfl)
   | (simp only [readK,Al_List_headD_cons,h15,h71,hfind,Al_if_true,Al_if_false,Al_Bool_false_eq_true,Al_List_take_length];rfl)
   | (simp only [readK,Al_List_headD_cons,h15,h71,hfind,Al_if_true,Al_if_false,Al_Bool_false_eq_true,sym_take hfind];rfl)
   | (simp only [readK,Al_List_headD_cons,h15,h71,hfind,Al_if_true,Al_if_false,Al_Bool_false_eq_true,Al_List_take_length];rfl)
 refine .sk<|.tN<|.sq<|.sm Z<|.mv Z<|.yw (.idxS Fx.str9 Z Z Z (b:=c) (j:=o) (by rw [<-Al_Nat_add_zero o];exact hget 0 (by simp)))<|.yw (.call Fx.call125 Z (λW s=>rdigit_any _ W))<|.nt<|.cd Z (λh71=>?_) (λh71=>?_)
 ·refine .cu (X:=Unit) [(0,_),(1,_),(4,_)] ⟨Z,Z,Z,Jt⟩ (λz=>[(5,.int .i64 ((o+pre digB (c::m):Nat):Int))]) (λz=>H) (λz=>[.box b4 [.int .i64 0,.string ⟨#[]⟩,.int .i64 0] 70]) (λz=>True) ?_ λz hC=>?_
  ·
   refine .bk<|.lp (X:=Nat) [(0,_),(1,_),(4,_)] ⟨Z,Z,Z,Jt⟩ [_] (λk=>[(5,.int .i64 ((o+k:Nat):Int))]) (λk=>H) (λk=>[]) (λk=>k<=pre digB (c::m)) (λk=>pre digB (c::m) - k) 0 (λ_ s=>s) ⟨Z,Jt⟩ (by omega) λk hC=>?_
   refine .sq<|.sm Z<|.mv Z<|.yw (.lenS Fx.str9 Z)<|.yw (.lss Z Z)<|.mv Z<|.e2 (λh76=>?_) (λh76=>?_)
   ·have hk:k<(c::m).length:=by omega
    refine .gy (.move Z)<|.gy (.move Z)<|.gy (.idxS Fx.str9 Z Z Z (b:=(c::m)[k]) (j:=o+k) (hget k hk))<|.gy (.call Fx.call125 Z (λW s=>rdigit_any _ W))<|.yw (.pickT Z Z)<|.nt<|.cd Z (λh81=>?_) (λh81=>?_)
    ·exact .sk<|.tN<|.bk<|.rg<|.mv Z<|.yw (.add Z Z (c:=((o+(k+1):Nat):Int)) ((w6 (by omega)).trans (by omega)))<|.a Z Z<|.nl<|.bN<|.tN<|.ag (k+1) ⟨Z,Jt⟩ ⟨Z,Z,Z,Jt⟩ (λ_ s=>s) (pre_step hk hC (by assumption)) (by have:=pre_step hk hC (by assumption);omega)
    exact .ex<|.eb<|.me () ⟨(by first | (rw [<-pre_end hC (by omega)];rfl) | (rw [<-pre_stop hk hC (by first | exact nins_of (by assumption) (by assumption) (by omega) | assumption)];rfl)),Jt⟩ ⟨Z,Z,Z,Jt⟩ (λ_ s=>s) trivial
   exact .gG<|.gG<|.gG<|.gG<|.yw (.pickF Z Z)<|.nt<|.cF Z<|.ex<|.eb<|.me () ⟨(by first | (rw [<-pre_end hC (by omega)];rfl) | (rw [<-pre_stop hk hC (by first | exact nins_of (by assumption) (by assumption) (by omega) | assumption)];rfl)),Jt⟩ ⟨Z,Z,Z,Jt⟩ (λ_ s=>s) trivial
  refine .sq<|.sm Z<|.mv Z<|.yw (.idxS Fx.str9 Z Z Z (b:=c) (j:=o) (by rw [<-Al_Nat_add_zero o];exact hget 0 (by simp)))<|.yw (.eql Z Z)<|.mv Z<|.e2 (λh88=>?_) (λh88=>?_)
  ·have h48:c=48:=Al_UInt8_toNat_inj.1 (by show c.toNat=48;omega);refine .gy (.move Z)<|.gy (.move Z)<|.gy (.add Z Z w7)<|.gy (.gtr Z Z)<|.yw (.pickT Z Z)<|.nt<|.ce Z (λh93=>?_) (λh93=>?_)
   ·have hor:¬ (pre digB (c::m)=1\/c≠48):=by
     rintro (h | h)
     ·omega
     ·exact h h48
    refine .sm Z<|.mv Z<|.yw (.cast (.dropS Fx.str9 Z Z Z (by omega)) (by rw [<-hm]))<|.mv Z<|.yw (.build Z (Fx.bld70_0_1_2 _ _ _))<|.sX .head Z Z Fx.size70 Z<|.nt<|.rt<|.tR<|.tR<|?_
    refine y8 Z (.cell Z Fx.agg70 Hm rfl) λW s=>⟨?_,(s.ext)⟩
    first
     | (simp only [readK,Al_List_headD_cons,h15,hw,Al_if_true,Al_if_false,Al_Bool_false_eq_true];rfl)
     | (simp only [readK,Al_List_headD_cons,h15,hw,Al_if_true,Al_if_false,Al_Bool_false_eq_true,Al_List_take_length];rfl)
     | (simp only [readK,Al_List_headD_cons,h15,hw,hw9,Al_if_true,Al_if_false,Al_Bool_false_eq_true];rfl)
     | (simp only [readK,Al_List_headD_cons,h15,hw,hw9,Al_if_true,Al_if_false,Al_Bool_false_eq_true,Al_List_take_length];rfl)
     | (simp only [readK,Al_List_headD_cons,h15,h71,hor,Al_if_true,Al_if_false,Al_Bool_false_eq_true];rfl)
     | (simp only [readK,Al_List_headD_cons,h15,h71,hor,Al_if_true,Al_if_false,Al_Bool_false_eq_true,Al_List_take_length];rfl)
     | (simp only [readK,Al_List_headD_cons,h15,h71,hfind,Al_if_true,Al_if_false,Al_Bool_false_eq_true];rfl)
     | (simp only [readK,Al_List_headD_cons,h15,h71,hfind,Al_if_true,Al_if_false,Al_Bool_false_eq_true,Al_List_take_length];rfl)
     | (simp only [readK,Al_List_headD_cons,h15,h71,hfind,Al_if_true,Al_if_false,Al_Bool_false_eq_true,sym_take hfind];rfl)
     | (simp only [readK,Al_List_headD_cons,h15,h71,hfind,Al_if_true,Al_if_false,Al_Bool_false_eq_true,Al_List_take_length];rfl)
   have hp1:=pre_step (l:=c::m) (k:=0) (by simp) (Al_Nat_zero_le _) h71;have hor:(pre digB (c::m)=1\/c≠48):=.inl (by omega);refine .sk<|.tN<|.sm Z<|.mv Z<|.mv Z<|.yw (.cast (.midS Fx.str9 Z Z Z Z Z (by omega) (by have:=pre_le digB (c::m);omega)) (by rw [mid_take,<-hm]))<|.mv Z<|.yw (.build Z (Fx.bld70_0_1_2 _ _ _))<|.sX .head Z Z Fx.size70 Z<|.nt<|.rt<|.tR<|?_
   refine y8 Z (.cell Z Fx.agg70 Hm rfl) λW s=>⟨?_,(s.ext)⟩
   first
    | (simp only [readK,Al_List_headD_cons,h15,hw,Al_if_true,Al_if_false,Al_Bool_false_eq_true];rfl)
    | (simp only [readK,Al_List_headD_cons,h15,hw,Al_if_true,Al_if_false,Al_Bool_false_eq_true,Al_List_take_length];rfl)
    | (simp only [readK,Al_List_headD_cons,h15,hw,hw9,Al_if_true,Al_if_false,Al_Bool_false_eq_true];rfl)
    | (simp only [readK,Al_List_headD_cons,h15,hw,hw9,Al_if_true,Al_if_false,Al_Bool_false_eq_true,Al_List_take_length];rfl)
    | (simp only [readK,Al_List_headD_cons,h15,h71,hor,Al_if_true,Al_if_false,Al_Bool_false_eq_true];rfl)
    | (simp only [readK,Al_List_headD_cons,h15,h71,hor,Al_if_true,Al_if_false,Al_Bool_false_eq_true,Al_List_take_length];rfl)
    | (simp only [readK,Al_List_headD_cons,h15,h71,hfind,Al_if_true,Al_if_false,Al_Bool_false_eq_true];rfl)
    | (simp only [readK,Al_List_headD_cons,h15,h71,hfind,Al_if_true,Al_if_false,Al_Bool_false_eq_true,Al_List_take_length];rfl)
    | (simp only [readK,Al_List_headD_cons,h15,h71,hfind,Al_if_true,Al_if_false,Al_Bool_false_eq_true,sym_take hfind];rfl)
    | (simp only [readK,Al_List_headD_cons,h15,h71,hfind,Al_if_true,Al_if_false,Al_Bool_false_eq_true,Al_List_take_length];rfl)
  have hor:(pre digB (c::m)=1\/c≠48):=.inr (λe=>h88 (by rw [e];rfl));refine .gG<|.gG<|.gG<|.gG<|.yw (.pickF Z Z)<|.nt<|.cF Z<|.sk<|.tN<|.sm Z<|.mv Z<|.mv Z<|.yw (.cast (.midS Fx.str9 Z Z Z Z Z (by omega) (by have:=pre_le digB (c::m);omega)) (by rw [mid_take,<-hm]))<|.mv Z<|.yw (.build Z (Fx.bld70_0_1_2 _ _ _))<|.sX .head Z Z Fx.size70 Z<|.nt<|.rt<|.tR<|?_
  refine y8 Z (.cell Z Fx.agg70 Hm rfl) λW s=>⟨?_,(s.ext)⟩
  first
   | (simp only [readK,Al_List_headD_cons,h15,hw,Al_if_true,Al_if_false,Al_Bool_false_eq_true];rfl)
   | (simp only [readK,Al_List_headD_cons,h15,hw,Al_if_true,Al_if_false,Al_Bool_false_eq_true,Al_List_take_length];rfl)
   | (simp only [readK,Al_List_headD_cons,h15,hw,hw9,Al_if_true,Al_if_false,Al_Bool_false_eq_true];rfl)
   | (simp only [readK,Al_List_headD_cons,h15,hw,hw9,Al_if_true,Al_if_false,Al_Bool_false_eq_true,Al_List_take_length];rfl)
   | (simp only [readK,Al_List_headD_cons,h15,h71,hor,Al_if_true,Al_if_false,Al_Bool_false_eq_true];rfl)
   | (simp only [readK,Al_List_headD_cons,h15,h71,hor,Al_if_true,Al_if_false,Al_Bool_false_eq_true,Al_List_take_length];rfl)
   | (simp only [readK,Al_List_headD_cons,h15,h71,hfind,Al_if_true,Al_if_false,Al_Bool_false_eq_true];rfl)
   | (simp only [readK,Al_List_headD_cons,h15,h71,hfind,Al_if_true,Al_if_false,Al_Bool_false_eq_true,Al_List_take_length];rfl)
   | (simp only [readK,Al_List_headD_cons,h15,h71,hfind,Al_if_true,Al_if_false,Al_Bool_false_eq_true,sym_take hfind];rfl)
   | (simp only [readK,Al_List_headD_cons,h15,h71,hfind,Al_if_true,Al_if_false,Al_Bool_false_eq_true,Al_List_take_length];rfl)
 refine .sk<|.tN<|.sq<|.sr<|.ct (X:=Nat) Fx.call127 Z (λW s=>symbolsR_any H W s.agr) Z λb105 H1 m1 u1=>.yw (.lenSl Fx.sl71 Z)<|.mv Z<|.nt<|.bk<|.lp (X:=Nat) [(0,_),(1,_),(4,_),(105,_),(106,_)] ⟨Z,Z,Z,Z,Z,Jt⟩ [_] (λk=>[(107,iN k)]) (λk=>H1) (λk=>[]) (λk=>k<=25/\∀ j,j<k->hasP (c::m) (symbols.getD j [])=false) (λk=>25 - k) 0 (λ_ s=>s) ⟨Z,Jt⟩ ⟨by omega,λj hj=>by omega⟩ λk hC=>?_
 obtain ⟨hk0,hne⟩:=hC;refine .sr<|.yw (.lss Z Z)<|.nt<|.sq<|.ce Z (λh108=>?_) (λh108=>?_)
 ·refine .sk<|.tN<|.sq<|.bk<|.sr<|.yw (.indexSl Fx.sl71 Z Z Z (by omega) (q:=k) (by omega))<|.yw (.loadM Z Fx.agg9 m1 (k:=k) (by omega) (list_at (by show k<25;omega) []))<|.a Z Z<|.ns<|.mv Z<|.yw (.lenS Fx.str9 Z)<|.mv Z<|.yw (.sub Z Z (w6 (by omega)))<|.mv Z<|.yw (.lenS Fx.str9 Z)<|.yw (.geq Z Z)<|.mv Z<|.e2 (λh118=>?_) (λh118=>?_)
  ·refine .gy (.move Z)<|.gy (.move Z)<|.gy (.move Z)<|.gy (.move Z)<|.gy (.lenS Fx.str9 Z)<|.gy (.add Z Z w7)<|.gy (.cast (.midS Fx.str9 Z Z Z Z (hi:=o+(symbols.getD k []).length) (by omega) (by omega) (by omega)) (by rw [mid_take,<-hm]))<|.gy (.move Z)<|.gy (.eqS Z Z)<|.yw (.pickT Z Z)<|.nt<|.ce Z (λh128=>?_) (λh128=>?_)
   ·have hfind:=sym_find (l:=c::m) (by omega) hne (by simp only [hasP,Al_Bool_and_eq_true,Al_decide_eq_true_eq] at *;exact ⟨by omega,by assumption⟩);refine .sm Z<|.mv Z<|.yw (.build Z (Fx.bld70_0_1_2 _ _ _))<|.sX .head Z Z Fx.size70 Z<|.zR<|.tR<|.bR<|.tR<|?_
    refine y8 Z (.cell Z Fx.agg70 Hm rfl) λW s=>⟨?_,(u1.grow s).ext⟩
    first
     | (simp only [readK,Al_List_headD_cons,h15,hw,Al_if_true,Al_if_false,Al_Bool_false_eq_true];rfl)
     | (simp only [readK,Al_List_headD_cons,h15,hw,Al_if_true,Al_if_false,Al_Bool_false_eq_true,Al_List_take_length];rfl)
     | (simp only [readK,Al_List_headD_cons,h15,hw,hw9,Al_if_true,Al_if_false,Al_Bool_false_eq_true];rfl)
     | (simp only [readK,Al_List_headD_cons,h15,hw,hw9,Al_if_true,Al_if_false,Al_Bool_false_eq_true,Al_List_take_length];rfl)
     | (simp only [readK,Al_List_headD_cons,h15,h71,hor,Al_if_true,Al_if_false,Al_Bool_false_eq_true];rfl)
     | (simp only [readK,Al_List_headD_cons,h15,h71,hor,Al_if_true,Al_if_false,Al_Bool_false_eq_true,Al_List_take_length];rfl)
     | (simp only [readK,Al_List_headD_cons,h15,h71,hfind,Al_if_true,Al_if_false,Al_Bool_false_eq_true];rfl)
     | (simp only [readK,Al_List_headD_cons,h15,h71,hfind,Al_if_true,Al_if_false,Al_Bool_false_eq_true,Al_List_take_length];rfl)
     | (simp only [readK,Al_List_headD_cons,h15,h71,hfind,Al_if_true,Al_if_false,Al_Bool_false_eq_true,sym_take hfind];rfl)
     | (simp only [readK,Al_List_headD_cons,h15,h71,hfind,Al_if_true,Al_if_false,Al_Bool_false_eq_true,Al_List_take_length];rfl)
   exact .sk<|.bN<|.tN<|.rg<|.yw (.add Z Z w7)<|.mv Z<|.nt<|.ag (k+1) ⟨Z,Jt⟩ ⟨Z,Z,Z,Z,Z,Jt⟩ (λ_ s=>s) ⟨by omega,λj hj=>by
   by_cases e:j=k
   ·subst e;simp only [hasP,Al_Bool_and_eq_false_iff,Al_decide_eq_false_iff_not] at *;first | exact .inl (by omega) | exact .inr (by assumption)
   ·exact hne j (by omega)⟩ (by omega)
  exact .gG<|.gG<|.gG<|.gG<|.gG<|.gG<|.gG<|.gG<|.gG<|.yw (.pickF Z Z)<|.nt<|.cF Z<|.sk<|.bN<|.tN<|.rg<|.yw (.add Z Z w7)<|.mv Z<|.nt<|.ag (k+1) ⟨Z,Jt⟩ ⟨Z,Z,Z,Z,Z,Jt⟩ (λ_ s=>s) ⟨by omega,λj hj=>by
   by_cases e:j=k
   ·subst e;simp only [hasP,Al_Bool_and_eq_false_iff,Al_decide_eq_false_iff_not] at *;first | exact .inl (by omega) | exact .inr (by assumption)
   ·exact hne j (by omega)⟩ (by omega)
 have hfind:=sym_none (l:=c::m) (λj hj=>hne j (by omega));refine .ex<|.eb<|.sm Z<|.mv Z<|.yw (.cast (.dropS Fx.str9 Z Z Z (by omega)) (by rw [<-hm]))<|.mv Z<|.yw (.build Z (Fx.bld70_0_1_2 _ _ _))<|.sX .head Z Z Fx.size70 Z<|.nt<|.rt<|?_
 refine y8 Z (.cell Z Fx.agg70 Hm rfl) λW s=>⟨?_,(u1.grow s).ext⟩
 first
  | (simp only [readK,Al_List_headD_cons,h15,hw,Al_if_true,Al_if_false,Al_Bool_false_eq_true];rfl)
  | (simp only [readK,Al_List_headD_cons,h15,hw,Al_if_true,Al_if_false,Al_Bool_false_eq_true,Al_List_take_length];rfl)
  | (simp only [readK,Al_List_headD_cons,h15,hw,hw9,Al_if_true,Al_if_false,Al_Bool_false_eq_true];rfl)
  | (simp only [readK,Al_List_headD_cons,h15,hw,hw9,Al_if_true,Al_if_false,Al_Bool_false_eq_true,Al_List_take_length];rfl)
  | (simp only [readK,Al_List_headD_cons,h15,h71,hor,Al_if_true,Al_if_false,Al_Bool_false_eq_true];rfl)
  | (simp only [readK,Al_List_headD_cons,h15,h71,hor,Al_if_true,Al_if_false,Al_Bool_false_eq_true,Al_List_take_length];rfl)
  | (simp only [readK,Al_List_headD_cons,h15,h71,hfind,Al_if_true,Al_if_false,Al_Bool_false_eq_true];rfl)
  | (simp only [readK,Al_List_headD_cons,h15,h71,hfind,Al_if_true,Al_if_false,Al_Bool_false_eq_true,Al_List_take_length];rfl)
  | (simp only [readK,Al_List_headD_cons,h15,h71,hfind,Al_if_true,Al_if_false,Al_Bool_false_eq_true,sym_take hfind];rfl)
  | (simp only [readK,Al_List_headD_cons,h15,h71,hfind,Al_if_true,Al_if_false,Al_Bool_false_eq_true,Al_List_take_length];rfl)
theorem lex_next {m:Str} {o:Nat} (hm:m=s.drop o) (h:o<s.length) (hsl:(skipS false (m.drop (readK m).2)).length<=m.length - (readK m).2) :
 skipS false (m.drop (readK m).2)=s.drop (o+(m.length - (skipS false (m.drop (readK m).2)).length)):=by
 have h1:=skipS_drop false (m.drop (readK m).2);rw [Al_List_length_drop,Al_List_drop_drop] at h1
 by_cases h0:(readK m).2<=m.length
 ·rw [show (readK m).2+(m.length - (readK m).2 - (skipS false (m.drop (readK m).2)).length)=m.length - (skipS false (m.drop (readK m).2)).length by omega] at h1;rw [<-Al_List_drop_drop,<-hm];exact h1.symm
 ·have e:m.drop (readK m).2=[]:=Al_List_drop_of_length_le (by omega);rw [e,skipS_nil,<-Al_List_drop_drop,<-hm];simp
theorem next_m (H:Hp) (s:Str) (hl:s.length<=1000000) (o:Nat) (ho:o<s.length) (m:Str) (hm:m=s.drop o) (w:World) (hA:Agr H w) :
 Calls prg 68 #[strV s,iN o] w λr w'=>r=.returned (.agg (cTk .i64 ⟨(readK m).1,m.take (readK m).2,o⟩).toArray)/\Ext w w':=by
 subst hm;exact next_any H s hl o ho w hA
theorem lexR_any (H:Hp) (s:Str) (hl:s.length<=1000000) (w:World) (hA:Agr H w) :
 Calls prg 32 #[strV s] w λr w'=>∃ (v:Value) (H':Hp),Rep H' (.seq 3 ((lexR s).map (dTk .i64))) [v]/\r=.returned v/\Grow H w H' w':=by
 refine Sx.enter (H:=H) func32 rfl ntmps32 rfl hA ?_;refine .sr<|.a Z Z<|.ns<|.a Z Z<|?_
 refine Sx.row0 70 3 ?_;refine .ns<|.mv Z<|.yw (.call Fx.call67 Z (λW _=>skip_any s hl 0 (by omega) W))<|.aq Z<|.sq<|.bk<|.lp (X:=Nat × Nat × Value × List Value) [(0,_)] ⟨Z,Jt⟩ [] (λz=>[(3,z.2.2.1),(4,iN z.1)]) (λz=>H) (λz=>[.row 70 3 z.2.2.1 z.2.1 z.2.2.2]) (λz=>z.1<=s.length/\z.2.1<=z.1/\∃ tk:List Tk,tk.length=z.2.1/\RepZ H 3 (tk.map (dTk .i64)) z.2.2.2/\tk++tokF (s.length+1) z.1 (s.drop z.1)=lexR s) (λz=>s.length - z.1) (s.length - (skipS false s).length,0,.slice none 0 0,[]) (λ_ s=>s) ⟨Z,Z,Jt⟩ ⟨by dsimp only;omega,by dsimp only;omega,[],Z,RepZ.nil,by rw [skipS_drop];rfl⟩ λz hC=>?_
 obtain ⟨o,n,r,xs⟩:=z;dsimp only at hC|-;obtain ⟨ho,hn,tk,hk,hz,htk⟩:=hC;refine .sq<|.sm Z<|.mv Z<|.yw (.lenS Fx.str9 Z)<|.yw (.lss Z Z)<|.nt<|.ce Z (λh11=>?_) (λh11=>?_)
 ·have hlt:o<s.length:=by omega
  obtain ⟨m,hm⟩:∃ m,m=s.drop o:=⟨_,Z⟩;have hml:m.length=s.length - o:=by rw [hm,Al_List_length_drop]
  have hm0:m≠[]:=by intro e;rw [e] at hml;simp at hml;omega
  have hrk:=readK_bnd hm0;have htl:(m.take (readK m).2).length=(readK m).2:=by rw [Al_List_length_take];omega
  rw [<-hm] at htk;have hsl:=skipS_len false (m.drop (readK m).2);rw [Al_List_length_drop] at hsl;exact .sk<|.tN<|.bk<|.sm Z<|.mv Z<|.yw (.call Fx.call68 Z (λW t=>next_m H s hl o hlt m hm W t.agr))<|.al Fx.zero70 Z λb5=>.sW .head Z Z Fx.size70 (by simp [cTk,Value.oneCell',strV]) Z<|.ns<|.mv Z<|.yw (.loadW Z Fx.agg70 Hm Z)<|.bl Z (Fx.bsl67_1 _ _ _) Z λb17=>.ap (news:=cTk .i64 ⟨(readK m).1,m.take (readK m).2,o⟩) Fx.row67 Z (λ_=>upd2) Z (.box Hm z0) Z (by simp [cTk,Value.oneCell',strV]) (by simp [maxLen];omega) (by omega) Z λr18 _=>.aq Z<|.rg<|.mv Z<|.mv Z<|.fA Z Fx.field70_1<|.lD Z Fx.agg9 mem1 Z<|.yw (.lenS Fx.str9 Z)<|.yw (.add Z Z (c:=((o+(readK m).2:Nat):Int)) (by rw [htl];exact (w6 (by omega)).trans (by omega)))<|.yw (.cast (.call Fx.call67 Z (λW _=>skip_any s hl (o+(readK m).2) (by omega) W)) (by rw [<-Al_List_drop_drop,<-hm,show s.length - (skipS false (m.drop (readK m).2)).length=o+(m.length - (skipS false (m.drop (readK m).2)).length) by omega]))<|.a Z Z<|.nl<|.bN<|.tN<|.ag (x:=(o,n,r,xs)) (o+(m.length - (skipS false (m.drop (readK m).2)).length),n+1,r18,xs++cTk .i64 ⟨(readK m).1,m.take (readK m).2,o⟩) ⟨Z,Z,Jt⟩ ⟨Z,Jt⟩ (λ_ s=>(s.pick [2] _ Z Z)) ⟨by dsimp only;omega,by dsimp only;omega,tk++[⟨(readK m).1,m.take (readK m).2,o⟩],by simp;omega,by dsimp only;rw [Al_List_map_append];exact hz.snoc (tk_shut (by rw [htl];omega)) Z,by dsimp only;rw [<-htk,Al_List_append_assoc,<-lex_next hm hlt hsl,tokF_step hm0,Al_List_cons_append,Al_List_nil_append,tokF_more (s.length+1) s.length _ _ (by omega) (by omega)]⟩ (by dsimp only;omega)
 obtain rfl:o=s.length:=by omega
 rw [List.drop_length,tokF_nil,Al_List_append_nil] at htk;refine .ex<|.eb<|.sm Z<|.az Z<|?_
 refine At.pm [0] [_] rfl rfl ?_;refine freezeSeq (ds:=(lexR s).map (dTk .i64)) (by rw [<-htk];simp;omega) (by rw [<-htk];exact hz) λH3 p3 c3 u3 hr3 hs3=>?_;exact y9 Z Z λW t=>⟨r,H3,hs3,Z,u3.grow t⟩
def Stk (l l':Tks):Prop:=∀ i,(tkf l i).k=(tkf l' i).k/\(tkf l i).t=(tkf l' i).t
structure Rr (l l':Tks) (c c':Rq):Prop where
 i:c.i=c'.i
 er:c.er=c'.er
 cd:c.er=0\/c.er=8\/c.er=2
 off:c.er≠0->∃ j,j<=c.i/\c.off=(tkf l j).o/\c'.off=(tkf l' j).o/\(c.er=2->(tkf l j).k=3)
section
variable {l l':Tks} (S:Stk l l') {c c':Rq} {w:Str}
include S
theorem Rr.is (h:Rr l l' c c'):c.is l w=c'.is l' w:=by
 unfold Rq.is;rw [h.i,(S c'.i).1,(S c'.i).2]
theorem Rr.ac (h:Rr l l' c c'):c.ac l w=c'.ac l' w:=by
 unfold Rq.ac;rw [h.is S,h.er]
omit S in
theorem Rr.nx (h:Rr l l' c c'):Rr l l' c.nx c'.nx:=⟨congrArg (·+1) h.i,h.er,h.cd,λe=>by
 obtain ⟨j,a,b⟩:=h.off e;exact ⟨j,Nat.le_succ_of_le a,b⟩⟩
theorem Rr.fail {k:Nat} (h:Rr l l' c c') (hk:k=8\/k=2/\(tkf l c.i).k=3):Rr l l' (c.fail l k) (c'.fail l' k):=by
 unfold Rq.fail
 by_cases e:c.er=0
 ·rw [Al_if_pos e,Al_if_pos (by rw [<-h.er];exact e)];refine ⟨h.i,Z,by rcases hk with rfl | ⟨rfl,_⟩ <;> simp,λ_=>⟨c.i,Al_Nat_le_refl _,Z,by rw [h.i],λk2=>?_⟩⟩;rcases hk with rfl | ⟨_,hk⟩
  ·exact absurd (show (8:Nat)=2 from k2) (by decide)
  ·exact hk
 ·rw [Al_if_neg e,Al_if_neg (by rw [<-h.er];exact e)];exact h
theorem Rr.f8 (h:Rr l l' c c'):Rr l l' (c.fail l 8) (c'.fail l' 8):=h.fail S (.inl Z)
theorem Rr.exS (h:Rr l l' c c'):Rr l l' (c.exS l w) (c'.exS l' w):=by
 unfold Rq.exS;rw [<-h.ac S]
 split
 ·exact h.nx
 ·exact h.f8 S
theorem Rr.nmK (h:Rr l l' c c'):c.nmK l=c'.nmK l':=by unfold Rq.nmK;rw [h.er,h.i,(S c'.i).1]
theorem Rr.nmV (h:Rr l l' c c'):c.nmV l=c'.nmV l':=by unfold Rq.nmV;rw [h.nmK S,h.i,(S c'.i).2]
theorem Rr.nmS (h:Rr l l' c c'):Rr l l' (c.nmS l) (c'.nmS l'):=by
 unfold Rq.nmS;rw [<-h.nmK S]
 split
 ·exact h.nx
 ·exact h.f8 S
theorem Rr.nbB (h:Rr l l' c c'):c.nbB l=c'.nbB l':=by unfold Rq.nbB;rw [h.er,h.i,(S c'.i).1]
theorem Rr.fit (h:Rr l l' c c'):c.fit l=c'.fit l':=by unfold Rq.fit;rw [h.i,(S c'.i).2]
theorem Rr.nbV (h:Rr l l' c c'):c.nbV l=c'.nbV l':=by unfold Rq.nbV;rw [h.nbB S,h.fit S,h.i,(S c'.i).2]
theorem Rr.nbS (h:Rr l l' c c'):Rr l l' (c.nbS l) (c'.nbS l'):=by
 unfold Rq.nbS;rw [<-h.nbB S,<-h.fit S]
 split
 ·rename_i e
  split
  ·exact h.nx
  ·exact h.fail S (.inr ⟨Z,(nbB_er e).2⟩)
 ·exact h.f8 S
theorem Rr.paS (h:Rr l l' c c'):Rr l l' (c.paS l) (c'.paS l'):=((h.nmS S).exS S).nmS S
theorem Rr.paV {op:UInt8} (h:Rr l l' c c'):c.paV l op=c'.paV l' op:=by
 unfold Rq.paV Rq.paN Rq.paF;rw [h.nmV S,((h.nmS S).exS S).nmV S]
theorem Rr.wiV {op:UInt8} (h:Rr l l' c c'):c.wiV l op=c'.wiV l' op:=by
 unfold Rq.wiV Rq.wiA Rq.wiB;rw [h.ac S,h.nx.nbV S,((h.nx.nbS S).exS S).nbV S]
theorem Rr.wiS (h:Rr l l' c c'):Rr l l' (c.wiS l) (c'.wiS l'):=by
 unfold Rq.wiS;rw [<-h.ac S]
 split
 ·exact (((h.nx.nbS S).exS S).nbS S).exS S
 ·exact h
theorem Rr.boV (h:Rr l l' c c'):c.boV l=c'.boV l':=by unfold Rq.boV;rw [h.ac S,h.nx.nbV S,h.nbV S]
theorem Rr.boS (h:Rr l l' c c'):Rr l l' (c.boS l) (c'.boS l'):=by
 unfold Rq.boS;rw [<-h.ac S]
 split
 ·exact h.nx.nbS S
 ·exact h.nbS S
theorem Rr.ama (h:Rr l l' c c'):Rr l l' (c.ama l) (c'.ama l'):=(h.nmS S).exS S
theorem Rr.amb (h:Rr l l' c c'):Rr l l' (c.amb l) (c'.amb l'):=((h.ama S).boS S).exS S
theorem Rr.amS (h:Rr l l' c c'):Rr l l' (c.amS l) (c'.amS l'):=(h.amb S).boS S
theorem Rr.amV {op:UInt8} (h:Rr l l' c c'):c.amV l op=c'.amV l' op:=by
 unfold Rq.amV;rw [h.nmV S,(h.ama S).boV S,(h.amb S).boV S]
theorem Rr.ful (h:Rr l l' c c'):c.ful l=c'.ful l':=by
 unfold Rq.ful;rw [h.nmV S,(h.nmS S).nx.nmV S]
theorem Rr.joV (h:Rr l l' c c'):c.joV l=c'.joV l':=by
 unfold Rq.joV;rw [h.ac S,h.ac S,h.ac S,h.ac S,h.nx.wiV S]
theorem Rr.joS (h:Rr l l' c c'):Rr l l' (c.joS l) (c'.joS l'):=by
 unfold Rq.joS;rw [<-h.ac S,<-h.ac S,<-h.ac S,<-h.ac S]
 split
 ·exact h.nx.wiS S
 split
 ·exact h.nx
 split
 ·exact h.nx
 split
 ·exact h.nx
 exact h
end
structure Rp (l l':Tks) (q q':Ps):Prop where
 c:Rr l l' q.c q'.c
 op:q.op=q'.op
 x:q.x=q'.x
 rd:q.rd=q'.rd
 dn:q.dn=q'.dn
section
variable {l l':Tks} (S:Stk l l') {q q':Ps} {w:Str}
theorem Rp.at {c c':Rq} (h:Rp l l' q q') (k:Rr l l' c c'):Rp l l' (q.at c) (q'.at c'):=⟨k,h.op,h.x,h.rd,h.dn⟩
theorem Rp.top (h:Rp l l' q q'):topO q=topO q':=by unfold topO;rw [h.op]
theorem Rp.push {o o':Ov} (h:Rp l l' q q') (e:o=o'):Rp l l' (pushS o q) (pushS o' q'):=by
 subst e;exact ⟨h.c,by show _::_=_::_;rw [h.top,h.op],h.x,Z,h.dn⟩
theorem Rp.give {v v':Vl} (h:Rp l l' q q') (e:v=v'):Rp l l' (giveS v q) (giveS v' q'):=by
 subst e;exact ⟨h.c,h.op,by show (_,_)=(_,_);rw [h.x],Z,h.dn⟩
theorem Rp.red {lv:Nat} (h:Rp l l' q q'):Rp l l' (redP lv q) (redP lv q'):=⟨h.c,by show (redL lv q.op q.x).1=_;rw [h.op,h.x];rfl,by show (redL lv q.op q.x).2=_;rw [h.op,h.x];rfl,h.rd,h.dn⟩
theorem Rp.clo {c c':Rq} {v v':Vl} {x x':Vb} (h:Rp l l' q q') (k:Rr l l' c c') (ev:v=v') (ex:x=x'):Rp l l' (cloS c v x q) (cloS c' v' x' q'):=by
 subst ev ex;exact ⟨k,by show q.op.tail=q'.op.tail;rw [h.op],Z,Z,h.dn⟩
theorem Rp.ite {p p':Prop} [Decidable p] [Decidable p'] {a b a' b':Ps} (e:p↔p') (h1:p->Rp l l' a a') (h2:¬ p->Rp l l' b b'):Rp l l' (if p then a else b) (if p' then a' else b'):=by
 by_cases h:p
 ·rw [Al_if_pos h,Al_if_pos (e.1 h)];exact h1 h
 ·rw [Al_if_neg h,Al_if_neg (λk=>h (e.2 k))];exact h2 h
include S
theorem Rp.ac (h:Rp l l' q q'):q.c.ac l w=true↔q'.c.ac l' w=true:=by rw [h.c.ac S]
theorem Rp.pref (h:Rp l l' q q'):(prefS l q=none/\prefS l' q'=none)\/∃ a b,prefS l q=some a/\prefS l' q'=some b/\Rp l l' a b:=by
 have k:=h.c.nx;unfold prefS;rw [<-h.c.ac S,<-h.c.ac S,<-h.c.ac S,<-h.c.ac S,<-h.c.ac S,<-h.c.ac S,<-h.c.ac S]
 split
 ·exact .inr ⟨_,_,Z,Z,(h.at k).push Z⟩
 split
 ·exact .inr ⟨_,_,Z,Z,(h.at k).push Z⟩
 split
 ·exact .inr ⟨_,_,Z,Z,(h.at (k.wiS S)).push (by rw [k.wiV S])⟩
 split
 ·exact .inr ⟨_,_,Z,Z,(h.at (k.wiS S)).push (by rw [k.wiV S])⟩
 split
 ·exact .inr ⟨_,_,Z,Z,(h.at (k.amS S)).push (by rw [k.amV S])⟩
 split
 ·exact .inr ⟨_,_,Z,Z,(h.at (k.amS S)).push (by rw [k.amV S])⟩
 split
 ·exact .inr ⟨_,_,Z,Z,(h.at ((k.amS S).exS S)).push (by rw [k.amV S])⟩
 exact .inl ⟨Z,Z⟩
theorem Rp.var (h:Rp l l' q q'):Rp l l' (varP l q) (varP l' q'):=by
 have n1:=h.c.nmS S;have n2:=n1.nx.nmS S;unfold varP;refine .ite (by rw [n1.ac S]) (λ_=>.ite (by rw [n2.ac S]) (λ_=>(h.at n2.nx).push (by rw [h.c.ful S])) λ_=>(h.at n2).give (by rw [h.c.ful S])) λ_=>(h.at n1).give (by rw [h.c.nmV S])
theorem Rp.arr (h:Rp l l' q q'):Rp l l' (arrP l q) (arrP l' q'):=by
 have n1:=(h.c.paS S).exS S (w:=[40]);unfold arrP;exact .ite (by rw [n1.ac S]) (λ_=>(h.at n1.nx).give (by rw [h.c.paV S])) λ_=>(h.at n1).push (by rw [h.c.paV S])
omit S in
theorem Rp.fms (h:Rp l l' q q'):fmsB q=fmsB q':=by unfold fmsB;rw [h.top]
theorem Rp.re2 (h:Rp l l' q q'):Rp l l' (re2P l q) (re2P l' q'):=by
 have k:=h.c.nx;have t:(tkf l q.c.i).k=(tkf l' q'.c.i).k:=by rw [h.c.i];exact (S _).1
 unfold re2P;refine .ite (h.ac S) (λ_=>(h.at k).push Z) λ_=>?_;refine .ite (h.ac S) (λ_=>(h.at k).push Z) λ_=>?_;refine .ite (by rw [t]) (λ_=>(h.at (h.c.nbS S)).give (by rw [h.c.nbV S])) λ_=>?_;refine .ite (by rw [t]) (λ_=>h.var S) λ_=>?_;refine .ite (h.ac S) (λ_=>(h.at k).give Z) λ_=>?_;refine .ite (h.ac S) (λ_=>(h.at (k.paS S)).give (by unfold Rq.paN Rq.paF;rw [k.nmV S,((k.nmS S).exS S).nmV S])) λ_=>?_;refine .ite (h.ac S) (λ_=>(h.at k).give Z) λ_=>?_;refine .ite (h.ac S) (λ_=>(h.at k).give Z) λ_=>?_;refine .ite (h.ac S) (λ_=>(h.at (k.nmS S)).give (by rw [k.nmV S])) λ_=>?_;refine .ite (h.ac S) (λ_=>(h.at ((k.paS S).exS S)).push (by rw [k.paV S])) λ_=>?_;exact .ite (h.ac S) (λ_=>(h.at k).arr S) λ_=>h.at (h.c.f8 S)
theorem Rp.opd (h:Rp l l' q q'):Rp l l' (operandP l q) (operandP l' q'):=by
 have rest:Rp l l' (restP l q) (restP l' q'):=by
  unfold restP;exact .ite (by rw [h.top,h.c.ac S]) (λ_=>(h.at h.c.nx).give Z) λ_=>h.re2 S
 unfold operandP;rw [<-h.fms]
 split
 ·rename_i q1 e1
  split at e1
  ·rename_i hb;rcases h.pref S with ⟨a,b⟩ | ⟨a,b,ea,eb,r⟩
   ·rw [a] at e1;cases e1
   ·rw [ea] at e1;cases e1;rw [Al_if_pos hb,eb];exact r
  ·cases e1
 ·rename_i e1
  split at e1
  ·rename_i hb;rcases h.pref S with ⟨a,b⟩ | ⟨a,b,ea,eb,r⟩
   ·rw [Al_if_pos hb,b];exact rest
   ·rw [ea] at e1;cases e1
  ·rename_i hb;rw [Al_if_neg hb];exact rest
theorem Rp.bet {op:UInt8} (h:Rp l l' q q'):Rp l l' (betP l op q) (betP l' op q'):=by
 unfold betP;refine .ite Iff.rfl (λ_=>.ite (by rw [h.x,(h.red (lv:=7)).top]) (λ_=>h.red.at (h.c.f8 S)) λ_=>(h.red.at h.c.nx).push Z) λ_=>?_;refine .ite Iff.rfl (λ_=>.ite (by rw [h.x]) (λ_=>h.red.at (h.c.f8 S)) λ_=>(h.red.at h.c.nx).push Z) λ_=>?_;exact .ite (by rw [h.x]) (λ_=>h.red.at (h.c.f8 S)) λ_=>(h.red.at h.c.nx).push Z
theorem Rp.joi (h:Rp l l' q q'):Rp l l' (joiP l q) (joiP l' q'):=by
 unfold joiP;rw [h.c.joV S];exact .ite (by rw [h.top]) (λ_=>h.at (h.c.f8 S)) λ_=>((h.at (h.c.joS S)).red).push Z
theorem Rp.clg (h:Rp l l' q q'):Rp l l' (clgP l q) (clgP l' q'):=by
 have t:(tkf l q.c.i).k=(tkf l' q'.c.i).k:=by rw [h.c.i];exact (S _).1
 have k:=h.c.nx;have e:=k.exS S (w:=[62,61]);unfold clgP;rw [<-h.top,<-h.x,<-e.nbV S];refine .ite (by rw [t]) (λ_=>⟨h.c,h.op,Z,h.rd,Z⟩) λ_=>?_;refine .ite (by rw [h.c.ac S]) (λ_=>h.clo k Z Z) λ_=>?_;refine .ite (by rw [h.c.ac S]) (λ_=>h.clo (e.nbS S) Z Z) λ_=>?_;refine .ite (by rw [h.c.ac S]) (λ_=>.ite Iff.rfl (λ_=>h.clo k Z Z) λ_=>h.clo k Z Z) λ_=>?_;refine .ite (by rw [h.c.ac S]) (λ_=>⟨k,by show _::_=_::_;rw [h.op],Z,Z,h.dn⟩) λ_=>?_;exact .ite (by rw [h.c.ac S]) (λ_=>h.clo k Z Z) λ_=>h.at (h.c.f8 S)
theorem Rp.opt (h:Rp l l' q q'):Rp l l' (operatorP l q) (operatorP l' q'):=by
 have t:(tkf l q.c.i).k=(tkf l' q'.c.i).k:=by rw [h.c.i];exact (S _).1
 have t2:(tkf l q.c.i).t=(tkf l' q'.c.i).t:=by rw [h.c.i];exact (S _).2
 have es:q.c.sym l=q'.c.sym l':=by unfold Rq.sym;rw [t,t2]
 have oth:Rp l l' (othP l q) (othP l' q'):=by
  unfold othP;have ew:q.c.wrd l=q'.c.wrd l':=by unfold Rq.wrd;rw [h.c.is S,h.c.is S,h.c.is S,h.c.is S]
  have ee:q.c.endB l=q'.c.endB l':=by unfold Rq.endB;rw [h.c.is S,h.c.is S,h.c.is S,t]
  exact .ite (by rw [ew]) (λ_=>h.joi S) λ_=>.ite (by rw [ee]) (λ_=>(h.red).clg S) λ_=>h.at (h.c.f8 S)
 unfold operatorP;rw [<-es]
 split
 ·exact h.bet S
 ·exact oth
theorem Rp.step (h:Rp l l' q q'):Rp l l' (stepP l q) (stepP l' q'):=by
 unfold stepP;exact .ite (by rw [h.rd]) (λ_=>h.opt S) λ_=>h.opd S
omit S in
theorem Rp.fin (h:Rp l l' q q'):q.fin↔q'.fin:=by unfold Ps.fin;rw [h.dn,h.c.er]
theorem Rp.run:∀ (n:Nat) (q q':Ps),Rp l l' q q'->Rp l l' (runP l n q) (runP l' n q')
 | 0,_,_,h=>h
 | n+1,q,q',h=>by
  unfold runP;exact .ite h.fin (λ_=>h) λ_=>Rp.run n _ _ (h.step S)
end
theorem rp_ini (l l':Tks):Rp l l' iniP iniP:=⟨⟨Z,Z,.inl rfl,λh=>absurd rfl h⟩,Z,Z,Z,Z⟩
theorem stk_par {l l':Tks} (S:Stk l l') (hl:l.length=l'.length) (T:Tlast l) (h0:0<l.length) {o e:Nat} (h:parF l=(f,o,e)) :
 ∃ o',parF l'=(f,o',e)/\((e=8\/e=2)->∃ j,j<l.length/\o=(tkf l j).o/\o'=(tkf l' j).o/\(e=2->(tkf l j).k=3))/\(¬ (e=8\/e=2)->o'=0):=by
 have R:=Rp.run S l.length iniP iniP (rp_ini l l');have W:=(run_end T l.length iniP (wf_ini h0) (by show l.length<=0+_;omega)).2;unfold parF at h|-;rw [<-hl];generalize runP l l.length iniP=q at R W h;generalize runP l' l.length iniP=q' at R;unfold endP at h|-;rw [<-R.c.er,<-R.x]
 have fc:fcheck (fF q.x)=0\/fcheck (fF q.x)=3\/fcheck (fF q.x)=9\/fcheck (fF q.x)=6:=by
  unfold fcheck
  split
  ·exact .inr (.inl Z)
  split
  ·exact .inr (.inr (.inl Z))
  split
  ·exact .inr (.inr (.inr Z))
  ·exact .inl Z
 split at h
 ·rename_i k;cases h;refine ⟨_,Al_if_pos k,λ_=>?_,λhn=>absurd (R.c.cd.resolve_left k) hn⟩;obtain ⟨j,a,b,c,d⟩:=R.c.off k;exact ⟨j,Nat.lt_of_le_of_lt a W.i,b,c,d⟩
 rename_i k;rw [Al_if_neg k]
 split at h
 ·rename_i k2;cases h;exact ⟨0,Al_if_pos k2,λhn=>by omega,λ_=>rfl⟩
 rename_i k2;rw [Al_if_neg k2]
 split at h
 ·rename_i k3;cases h;exact ⟨0,Al_if_pos k3,λhn=>by omega,λ_=>rfl⟩
 ·rename_i k3;cases h;exact ⟨0,Al_if_neg k3,λhn=>by omega,λ_=>rfl⟩
def gap4:List Str:=[[32],[10],[9,32],[32,47,47,32,99,10]]
def gapB4 (bl:List UInt8) (i:Nat):Str:=if i<bl.length then gap4.getD ((bl.getD i 0).toNat % 4) [] else [32]
theorem gap4_skip:∀ g∈gap4,∀ m,skipS false (g++m)=skipS false m:=by
 intro g hg m;simp only [gap4,Al_List_mem_cons,List.not_mem_nil,or_false] at hg;rcases hg with rfl | rfl | rfl | rfl <;> simp [skipS,blkB]
theorem gap4_hd:∀ g∈gap4,(g≠[]/\blkB (g.headD 0)=true)/\g.length<=6:=by decide
theorem gapB4_mem (bl:List UInt8) (i:Nat):gapB4 bl i∈gap4:=by
 unfold gapB4
 split
 ·have h:∀ j∈List.range 4,gap4.getD j []∈gap4:=by decide
  exact h _ (Al_List_mem_range.2 (Al_Nat_mod_lt _ (by omega)))
 ·simp [gap4]
theorem gap4_app {g:Str} (h:g∈gap4) (r:Str):gapB (g++r):=by
 obtain ⟨⟨h0,h1⟩,_⟩:=gap4_hd g h;intro d hd
 match g,h0 with
 | c::t,_=>cases hd;exact h1
section
variable (g:Nat->Str)
def wdT:Nat->List Tk->Str
 | _,[]=>[]
 | i,t::r=>g i++(t.t++wdT (i+1) r)
def rtk:Nat->Nat->List Tk->List Tk
 | _,_,[]=>[]
 | o,i,t::r=>⟨t.k,t.t,o+(g i).length⟩::rtk (o+(g i).length+t.t.length) (i+1) r
end
def TkOk (t:Tk) (r:List Tk):Prop:=(∃ x,Tok (t.k,t.t) x)\/(t.k=5/\r=[]/\t.t≠[]/\readK t.t=(5,t.t.length)/\skipS false t.t=t.t)
def LexOk:List Tk->Prop
 | []=>True
 | t::r=>TkOk t r/\LexOk r
section
variable {g:Nat->Str} (hg:∀ i,g i∈gap4)
include hg
theorem wd_gap:∀ (i:Nat) (l:List Tk),gapB (wdT g i l)
 | _,[]=>λd e=>(by cases e)
 | i,t::r=>gap4_app (hg i) _
theorem wd_lex:∀ (l:List Tk) (i o:Nat),LexOk l->tkA o (wdT g i l)=rtk g o i l
 | [],_,_,_=>tkA_nil _
 | t::r,i,o,⟨h,hr⟩=>by
  show tkA o (g i++(t.t++wdT g (i+1) r))=_;rw [tkA_gap (gap4_skip _ (hg i) _)];rcases h with ⟨x,h⟩ | ⟨hk,rfl,hne,hrd,hsk⟩
  ·have:=tkA_tok (o:=o+(g i).length) (h.gap (wd_gap hg (i+1) r));dsimp only at this;rw [this,wd_lex r (i+1) _ hr];rfl
  ·show tkA _ (t.t++[])=[⟨t.k,t.t,o+(g i).length⟩];have e0:skipN t.t=0:=by unfold skipN;rw [hsk,Al_Nat_sub_self]
   rw [Al_List_append_nil];unfold tkA;rw [e0,Al_List_drop_zero,Al_Nat_add_zero,toks_cons hne,hrd];dsimp only;rw [Al_List_take_length,Al_List_drop_of_length_le (Nat.le_add_right _ _),toks_nil,hk]
end
theorem rtk_kt (g:Nat->Str):∀ (l:List Tk) (o i:Nat),(rtk g o i l).map kt=l.map kt
 | [],_,_=>rfl
 | t::r,o,i=>by
  show kt _::(rtk g _ _ r).map kt=kt t::r.map kt;rw [rtk_kt g r];rfl
theorem wdT_snoc (g:Nat->Str) (t:Tk):∀ (l:List Tk) (i:Nat),wdT g i (l++[t])=wdT g i l++(g (i+l.length)++t.t)
 | [],i=>by show g i++(t.t++[])=[]++(g (i+0)++t.t);rw [Al_List_append_nil];rfl
 | x::r,i=>by
  show g i++(x.t++wdT g (i+1) (r++[t]))=(g i++(x.t++wdT g (i+1) r))++_;rw [wdT_snoc g t r (i+1),Al_List_length_cons,show i+1+r.length=i+(r.length+1) by omega];simp only [Al_List_append_assoc]
theorem rtk_at (g:Nat->Str):∀ (l:List Tk) (o i j:Nat),j<l.length->((rtk g o i l).getD j ⟨0,[],0⟩).o=o+(wdT g i (l.take j)).length+(g (i+j)).length
 | t::r,o,i,0,_=>rfl
 | t::r,o,i,j+1,h=>by
  show ((rtk g (o+(g i).length+t.t.length) (i+1) r).getD j ⟨0,[],0⟩).o=_;rw [rtk_at g r _ _ j (by simpa using h),List.take_succ_cons];show _=o+(g i++(t.t++wdT g (i+1) (r.take j))).length+_;rw [Al_List_length_append,Al_List_length_append,show i+1+j=i+(j+1) by omega];omega
theorem wdT_len {g:Nat->Str} (hg:∀ i,g i∈gap4) {m:Nat}:∀ (l:List Tk) (i:Nat),(∀ t∈l,t.t.length<=m)->(wdT g i l).length<=(m+6) * l.length
 | [],_,_=>Al_Nat_zero_le _
 | t::r,i,h=>by
  have h1:=(gap4_hd _ (hg i)).2;have h2:=h t (Al_List_mem_cons_self ..);have h3:=wdT_len hg r (i+1) λx hx=>h x (Al_List_mem_cons_of_mem _ hx);show (g i++(t.t++wdT g (i+1) r)).length<=_;rw [Al_List_length_append,Al_List_length_append,Al_List_length_cons,Nat.mul_succ];omega
theorem skipS_idem:∀ (l:Str) (b:Bool),skipS false (skipS b l)=skipS b l
 | [],b=>by rw [skipS_nil,skipS_nil]
 | c::r,true=>by
  rw [skipS]
  split
  ·exact skipS_idem r false
  ·exact skipS_idem r true
 | c::r,false=>by
  rw [skipS]
  split
  ·exact skipS_idem r false
  ·rename_i h1
   split
   ·exact skipS_idem r true
   ·rename_i h2;exact skipS_stop (by simpa using h1) h2
theorem readK_bad {m:Str} (h:(readK m).1=5):(readK m).2=m.length:=by
 unfold readK at h|-;dsimp only at h|-
 split at h
 ·rename_i h1;rw [Al_if_pos h1]
  split at h
  ·cases h
  ·rename_i h2;rw [Al_if_neg h2]
   split at h
   ·cases h
   ·rename_i h3;rw [Al_if_neg h3]
 ·rename_i h1;rw [Al_if_neg h1]
  split at h
  ·rename_i h2;rw [Al_if_pos h2]
   split at h
   ·cases h
   ·rename_i h3;rw [Al_if_neg h3]
  ·rename_i h2;rw [Al_if_neg h2]
   split at h
   ·cases h
   ·rfl
theorem tokF_ok:∀ (f o:Nat) (m:Str),m.length<=1000000->skipS false m=m->LexOk (tokF f o m)
 | 0,_,_,_,_=>trivial
 | f+1,o,m,hl,hs=>by
  by_cases h0:m=[]
  ·subst h0;rw [tokF_nil];trivial
  ·rw [tokF_step h0];obtain ⟨b1,b2⟩:=readK_bnd h0;have hlt:(m.take (readK m).2).length=(readK m).2:=by rw [Al_List_length_take];omega
   have hr:=skipS_len false (m.drop (readK m).2);rw [Al_List_length_drop] at hr;refine ⟨?_,tokF_ok f _ _ (by omega) (skipS_idem _ _)⟩
   by_cases h5:(readK m).1=5
   ·have e:=readK_bad h5;refine .inr ⟨h5,?_,?_,?_,?_⟩
    ·rw [e,List.drop_length,skipS_nil,tokF_nil]
    ·rw [e,Al_List_take_length];exact h0
    ·rw [e,Al_List_take_length];exact Prod.ext h5 e
    ·rw [e,Al_List_take_length];exact hs
   ·refine .inl ⟨m.drop (readK m).2,⟨?_,?_,?_,h5,?_⟩⟩
    ·intro e;have:=congrArg List.length (show m.take (readK m).2=[] from e);rw [hlt] at this;simp at this;omega
    ·show readK (m.take (readK m).2++m.drop (readK m).2)=((readK m).1,(m.take (readK m).2).length);rw [Al_List_take_append_drop,hlt]
    ·show skipS false (m.take (readK m).2++m.drop (readK m).2)=m.take (readK m).2++m.drop (readK m).2;rw [Al_List_take_append_drop,hs]
    ·show (m.take (readK m).2).length<=1000000;omega
theorem lexR_ok (h:s.length<=1000000):LexOk (lexR s):=tokF_ok _ _ _ (Al_Nat_le_trans (skipS_len _ _) h) (skipS_idem _ _)
theorem tokF_mono:∀ (f o:Nat) (m:Str),(tokF f o m).Pairwise (λa b=>a.o<b.o)/\∀ t∈tokF f o m,o<=t.o/\t.o<o+m.length
 | 0,_,_=>⟨.nil,λt h=>(by cases h)⟩
 | f+1,o,m=>by
  by_cases h0:m=[]
  ·subst h0;rw [tokF_nil];exact ⟨.nil,λt h=>(by cases h)⟩
  ·rw [tokF_step h0];obtain ⟨b1,b2⟩:=readK_bnd h0;have hr:=skipS_len false (m.drop (readK m).2);rw [Al_List_length_drop] at hr;obtain ⟨p,q⟩:=tokF_mono f (o+(m.length - (skipS false (m.drop (readK m).2)).length)) (skipS false (m.drop (readK m).2));refine ⟨.cons (λt ht=>?_) p,λt ht=>?_⟩
   ·have:=(q t ht).1;show o<t.o;omega
   ·rcases Al_List_mem_cons.1 ht with rfl | ht
    ·show o<=o/\o<o+m.length;omega
    ·have:=q t ht;omega
theorem lexR_mono (s:Str):(lexR s).Pairwise (λa b=>a.o<b.o)/\∀ t∈lexR s,t.o<s.length:=by
 have h:=tokF_mono (s.length+1) (s.length - (skipS false s).length) (skipS false s);have hl:=skipS_len false s;exact ⟨h.1,λt ht=>by have:=(h.2 t ht).2;omega⟩
def plN (g:Nat->Str) (l:List Tk) (at_:Nat):Nat->Nat
 | 0=>0
 | k+1=>if (l.getD k ⟨0,[],0⟩).o=at_ then (wdT g 0 (l.take k)).length+(g k).length else plN g l at_ k
theorem plN_at {g:Nat->Str} {l:List Tk} (h:l.Pairwise (λa b=>a.o<b.o)) {j:Nat} (hj:j<l.length):∀ k,j<k->k<=l.length->plN g l (l.getD j ⟨0,[],0⟩).o k=(wdT g 0 (l.take j)).length+(g j).length
 | 0,h0,_=>by omega
 | k+1,h0,h1=>by
  unfold plN
  by_cases e:k=j
  ·subst e;rw [Al_if_pos rfl]
  ·have hlt:=List.pairwise_iff_getElem.1 h j k hj (by omega) (by omega);rw [Al_if_neg (by rw [getD_at (by omega),getD_at hj];omega),plN_at h hj k (by omega) (by omega)]
variable {j:Nat}
theorem tkf_mid (h:j<(lexR s).length):tkf (tksF s) j=(lexR s).getD j ⟨0,[],0⟩:=by
 unfold tkf tksF;rw [List.getD_eq_getElem?_getD,List.getD_eq_getElem?_getD,List.getElem?_append_left h]
theorem tkf_end (s:Str):tkf (tksF s) (lexR s).length=endT s:=by
 unfold tkf tksF;rw [List.getD_eq_getElem?_getD,List.getElem?_append_right (Al_Nat_le_refl _),Al_Nat_sub_self];rfl
theorem stk_kt {l l':Tks} (h:l.map kt=l'.map kt):Stk l l':=λi=>by
 have e:kt (tkf l i)=kt (tkf l' i):=by
  have key:∀ m:Tks,kt (tkf m i)=(m.map kt).getD i (0,[]):=λm=>by
   unfold tkf;rw [List.getD_eq_getElem?_getD,List.getD_eq_getElem?_getD,List.getElem?_map];cases m[i]? <;> rfl
  rw [key,key,h]
 exact ⟨congrArg Prod.fst e,congrArg Prod.snd e⟩
theorem blk_par {g:Nat->Str} (hg:∀ i,g i∈gap4) (hs:s.length<=1000000) {o e:Nat} (h:parF (tksF s)=(f,o,e)) :
 ∃ o',parF (tksF (wdT g 0 (lexR s)))=(f,o',e)/\(e=8->o=s.length->o'=(wdT g 0 (lexR s)).length)/\(¬ (e=8/\o=s.length)->(e=8\/e=2)->o'=plN g (lexR s) o (lexR s).length)/\(¬ (e=8\/e=2)->o'=0):=by
 have hL:lexR (wdT g 0 (lexR s))=rtk g 0 0 (lexR s):=by rw [tkA_lex,wd_lex hg _ _ _ (lexR_ok hs)]
 have hk:(tksF s).map kt=(tksF (wdT g 0 (lexR s))).map kt:=by
  unfold tksF;rw [Al_List_map_append,Al_List_map_append,hL,rtk_kt];rfl
 have hlen:(rtk g 0 0 (lexR s)).length=(lexR s).length:=by
  have:=congrArg List.length (rtk_kt g (lexR s) 0 0)
  rwa [Al_List_length_map,Al_List_length_map] at this
 have hl:(tksF s).length=(tksF (wdT g 0 (lexR s))).length:=by
  have:=congrArg List.length hk
  rwa [Al_List_length_map,Al_List_length_map] at this
 obtain ⟨o',p1,p2,p3⟩:=stk_par (stk_kt hk) hl (tgd_of s).last (by rw [tksF_len];omega) h;obtain ⟨m1,m2⟩:=lexR_mono s;refine ⟨o',p1,λe8 ho=>?_,λhn h82=>?_,p3⟩
 ·obtain ⟨j,hj,a,b,_⟩:=p2 (.inl e8);rw [tksF_len] at hj
  by_cases hjl:j<(lexR s).length
  ·rw [tkf_mid hjl] at a;have:=m2 _ (Al_List_getElem_mem hjl);rw [getD_at hjl] at a;omega
  ·obtain rfl:j=(lexR s).length:=by omega
   have:=tkf_end (wdT g 0 (lexR s));rw [hL,hlen] at this;rw [b,this];rfl
 ·obtain ⟨j,hj,a,b,c⟩:=p2 h82;rw [tksF_len] at hj
  by_cases hjl:j<(lexR s).length
  ·rw [tkf_mid hjl] at a;rw [b,tkf_mid (by rw [hL,hlen];exact hjl),hL,rtk_at g _ _ _ _ hjl,a,plN_at m1 hjl _ hjl (Al_Nat_le_refl _),Al_Nat_zero_add,Al_Nat_zero_add]
  ·obtain rfl:j=(lexR s).length:=by omega
   rw [tkf_end] at a c;rcases h82 with e8 | e2
   ·exact absurd ⟨e8,a⟩ hn
   ·have:=c e2;cases this
theorem Fx.call30:callN prg 30=true:=by kernel_rfl
theorem Fx.field70_2:fieldN prg 70 2=some 2:=by kernel_rfl
theorem Fx.bsl71_4 (x0 x1 x2 x3:ByteArray):bslN prg 71 4 [(0,.string x0),(1,.string x1),(2,.string x2),(3,.string x3)]=some (9,[.string x0,.string x1,.string x2,.string x3]):=by kernel_rfl
variable {H:Hp}
theorem u8_opn {c:UInt8} {cs:List Value} (h:Rep H (dU8 c) cs):cs=[.int .u8 c.toNat]:=by unfold dU8 Rep at h;exact h.1
theorem gap4_at {bl:List UInt8} (h:k<bl.length):([.string ⟨#[32]⟩,.string ⟨#[10]⟩,.string ⟨#[9,32]⟩,.string ⟨#[32,47,47,32,99,10]⟩]:List Value)[bl[k].toNat % 4]? = some (strV (gapB4 bl k)):=by
 have e:gapB4 bl k=gap4.getD (bl[k].toNat % 4) []:=by unfold gapB4;rw [Al_if_pos h,getD_at h]
 rw [e];have h5:bl[k].toNat % 4<4:=Al_Nat_mod_lt _ (by omega);generalize bl[k].toNat % 4=j at h5
 match j,h5 with
 | 0,_=>rfl
 | 1,_=>rfl
 | 2,_=>rfl
 | 3,_=>rfl
theorem wd_at {g:Nat->Str} {l:List Tk} (h:k<l.length):wdT g 0 (l.take (k+1))=wdT g 0 (l.take k)++(g k++l[k].t):=by
 rw [List.take_succ,List.getElem?_eq_getElem h];show wdT g 0 (l.take k++[l[k]])=_;rw [wdT_snoc,Al_List_length_take,Al_Nat_min_eq_left (Al_Nat_le_of_lt h),Al_Nat_zero_add]
theorem plN_hit {g:Nat->Str} {l:List Tk} {a:Nat} (h:k<l.length) (e:l[k].o=a):plN g l a (k+1)=(wdT g 0 (l.take k)++g k).length:=by
 rw [plN,Al_if_pos (by rw [getD_at h];exact e),Al_List_length_append]
theorem plN_mis {g:Nat->Str} {l:List Tk} {a:Nat} (h:k<l.length) (e:¬ l[k].o=a):plN g l a (k+1)=plN g l a k:=by
 rw [plN,Al_if_neg (by rw [getD_at h];exact e)]
theorem par_bl {l:Tks} {o e:Nat} (h:parF l=(f,o,e)):blF 4 f=true/\f.count<=60:=by
 by_cases k:e=0
 ·have:=((par_good h).1 k).1;exact ⟨chk_bl this,(fcheck_ok this).1⟩
 ·obtain rfl:=(par_good h).2 k;exact ⟨blF_z,by decide⟩
set_option maxHeartbeats 4000000 in
theorem formulaBlanks_any (H:Hp) (GL:Gl H) (G:Gf H) (gq:Gq H) (n:Str) (bl:List UInt8) (v1:Value) (hn:n.length<=9223372036854775807) (hb:Rep H (.seq 1 (bl.map dU8)) [v1]) (w:World) (hA:Agr H w) :
 Calls prg 11 #[strV n,v1] w λr w'=>r=.returned (.bool true)/\Ext w w':=by
 obtain ⟨pb,cb,eb,_⟩:=hb.sl;simp only [Al_List_cons_injEq,Al_and_true,Al_List_length_map] at eb;subst eb;have hcap:=hb.cap;have hs0:(n.take 400).length<=400:=by rw [Al_List_length_take];omega
 have hs1:(n.take 400).length<=1000000:=by omega
 have hts:∀ t∈(lexR (n.take 400)),t.t.length<=400:=λt ht=>Al_Nat_le_trans (lexR_shortF _ t ht) hs0;have hll:=lexR_len (n.take 400);obtain ⟨f0,o0,e0,hp⟩:∃ f o e,parF (tksF (n.take 400))=(f,o,e):=⟨_,_,_,Z⟩;obtain ⟨o1,hp2,hq1,hq2,hq3⟩:=blk_par (gapB4_mem bl) hs1 hp;have hf4:=par_bl hp;refine Sx.enter (H:=H) func11 rfl ntmps11 rfl hA ?_;refine .sr<|.aq Z<|.sq<|.sr<|.yw (.call Fx.call13 Z (λW s=>awake_any H GL G gq W s.agr))<|.yw (.not Z)<|.nt<|.cF Z<|.sk<|.tN<|.sm Z<|.yw (.call Fx.call30 Z (λW s=>short_any H n hn W s.agr))<|.a Z Z<|.ns<|.mv Z<|.ct (X:=List Value) Fx.call26 Z (λW s=>fparse_is H GL G (n.take 400) f0 o0 e0 (take_short n) hp W s.agr) Z λx1 H1 hx1 u1=>.mv Z<|.yw (.extract Z Z)<|.yw (.extract Z Z)<|.yw (.extract Z Z)<|.al Fx.zero35 Z λb5=>.sV .head Z Z Fx.size35 (fm_len hx1) hx1.one Z<|.a Z Z<|.a Z Z<|.ns<|.a Z Z<|.aq Z<|.sq<|.sm Z<|.ct (X:=Value) Fx.call32 Z (λW s=>lexR_any H1 (n.take 400) hs1 W s.agr) Z λv2 H2 hv2 u2=>?_
 obtain ⟨pv,cv,e2,_⟩:=hv2.sl;simp only [Al_List_cons_injEq,Al_and_true,Al_List_length_map] at e2;subst e2;have hb2:=(hb.up u1.up).up u2.up;refine .yw (.lenSl Fx.sl67 Z)<|.mv Z<|.nt<|.bk<|.lp (X:=Nat × Hp) [(0,_),(1,_),(5,_),(6,_),(7,_),(27,_),(28,_)] ⟨Z,Z,Z,Z,Z,Z,Z,Jt⟩ [_] (λz=>[(8,strV (wdT (gapB4 bl) 0 ((lexR (n.take 400)).take z.1))),(9,iN (plN (gapB4 bl) (lexR (n.take 400)) o0 z.1)),(29,iN z.1)]) (λz=>z.2) (λz=>[]) (λz=>z.1<=(lexR (n.take 400)).length/\HUp w H2 z.2) (λz=>(lexR (n.take 400)).length - z.1) (0,H2) (λ_ s=>s) ⟨by rw [Al_List_take_zero];rfl,Z,Z,Jt⟩ ⟨Al_Nat_zero_le _,.refl⟩ λz hC=>?_
 obtain ⟨k,H3⟩:=z;obtain ⟨hk0,u3⟩:=hC;dsimp only at hk0 u3|-;have hwl:=wdT_len (g:=(gapB4 bl)) (gapB4_mem bl) ((lexR (n.take 400)).take k) 0 (m:=400) (λt ht=>hts t (Al_List_mem_of_mem_take ht));rw [Al_List_length_take,Al_Nat_min_eq_left hk0] at hwl;refine .sr<|.yw (.lss Z Z)<|.nt<|.sq<|.ce Z (λh30=>?_) (λh30=>?_)
 ·have hk:k<(lexR (n.take 400)).length:=by omega
  obtain ⟨bE,oE,cE,hpE,rE,lE,mE⟩:=(hv2.up u3.up).elem (map_at (f:=dTk .i64) hk);cases hpE;obtain ⟨rfl,htl⟩:=tk_open rE;have htk:=hts _ (Al_List_getElem_mem hk);have hgl:=(gap4_hd _ (gapB4_mem bl k)).2;refine .sk<|.tN<|.sq<|.bk<|.sm Z<|.yw (.indexSl Fx.sl67 Z Z Z (by omega) (q:=oE+k * 3) Z)<|.yw (.loadMW Z Fx.agg70 mE Z)<|.al Fx.zero70 Z λb11=>.a Z Z<|.sW .head Z Z Fx.size70 (by simp [cTk,Value.oneCell',strV]) Z<|.ns<|.aq Z<|.sq<|.sm Z<|.mv Z<|.yw (.lenSl Fx.sl50 Z)<|.yw (.lss Z Z)<|.nt<|.ce Z (λh37=>?_) (λh37=>?_)
  ·have hkb:k<bl.length:=by omega
   obtain ⟨bB,oB,cB,hpB,rB,lB,mB⟩:=(hb2.up u3.up).elem (map_at (f:=dU8) hkb);cases hpB;obtain rfl:=u8_opn rB;refine .rg<|.bl Z (Fx.bsl71_4 _ _ _ _) Z λb38=>?_
   refine freezeBox λH4 u4 m4=>?_;refine .mv Z<|.mv Z<|.yw (.indexSl Fx.sl50 Z Z Z (by omega) (q:=oB+k * 1) Z)<|.yw (.loadM Z Fx.agg5 (mB.up u4.up) (k:=0) Z Z)<|.yw (.rem Z Z (by decide) (c:=((bl[k].toNat % 4:Nat):Int)) (by rw [Al_Int_tmod_eq_emod_of_nonneg (by omega)];omega))<|.yw (.indexSl Fx.sl71 Z Z (i:=bl[k].toNat % 4) Z (Al_Nat_mod_lt _ (by omega)) (q:=bl[k].toNat % 4) (by omega))<|.yw (.loadM Z Fx.agg9 m4 (k:=bl[k].toNat % 4) (v:=strV (gapB4 bl k)) (by omega) (gap4_at hkb))<|.a Z Z<|.ns<|.mv Z<|.mv Z<|.yw (.app Z Z (by (try simp only [Al_List_length_append]);omega))<|.aq Z<|.sq<|.sr<|.fA Z Fx.field70_2<|.lD Z Fx.agg3 Hm Z<|.mv Z<|.yw (.eql Z Z)<|.nt<|.cd Z (λh52=>?_) (λh52=>?_)
   ·try simp only [dt] at h52
    have hat:((lexR (n.take 400))[k]).o=o0:=by omega
    exact .rg<|.mv Z<|.yw (.lenS Fx.str9 Z)<|.aq Z<|.rg<|.mv Z<|.fA Z Fx.field70_1<|.lD Z Fx.agg9 Hm Z<|.yw (.app Z Z (by simp only [Al_List_length_append];omega))<|.a Z Z<|.nl<|.bN<|.tN<|.rg<|.yw (.add Z Z w7)<|.mv Z<|.nt<|.ag (x:=(k,H3)) (k+1,H4) ⟨by rw [wd_at hk];exact congrArg (λs=>some (strV s)) (by simp only [Al_List_append_assoc]),by first | exact congrArg (λm:Nat=>some (Value.int .i64 (m:Int))) (plN_hit hk hat).symm | exact congrArg (λm:Nat=>some (Value.int .i64 (m:Int))) (plN_mis hk hat).symm,Z,Jt⟩ ⟨Z,Z,Z,Z,Z,Z,Z,Jt⟩ (λ_ s=>s.pick [1] [_] Z Z) ⟨by show k+1<=_;omega,u3.trans u4⟩ (by show (lexR (n.take 400)).length - (k+1)<(lexR (n.take 400)).length - k;omega)
   try simp only [df] at h52
   have hat:¬ ((lexR (n.take 400))[k]).o=o0:=by omega
   exact .sk<|.tN<|.rg<|.mv Z<|.fA Z Fx.field70_1<|.lD Z Fx.agg9 Hm Z<|.yw (.app Z Z (by simp only [Al_List_length_append];omega))<|.a Z Z<|.nl<|.bN<|.tN<|.rg<|.yw (.add Z Z w7)<|.mv Z<|.nt<|.ag (x:=(k,H3)) (k+1,H4) ⟨by rw [wd_at hk];exact congrArg (λs=>some (strV s)) (by simp only [Al_List_append_assoc]),by first | exact congrArg (λm:Nat=>some (Value.int .i64 (m:Int))) (plN_hit hk hat).symm | exact congrArg (λm:Nat=>some (Value.int .i64 (m:Int))) (plN_mis hk hat).symm,Z,Jt⟩ ⟨Z,Z,Z,Z,Z,Z,Z,Jt⟩ (λ_ s=>s.pick [1] [_] Z Z) ⟨by show k+1<=_;omega,u3.trans u4⟩ (by show (lexR (n.take 400)).length - (k+1)<(lexR (n.take 400)).length - k;omega)
  have hgo:gapB4 bl k=[32]:=by unfold gapB4;rw [Al_if_neg (by omega)]
  refine .sk<|.tN<|.sm Z<|.mv Z<|.yw (.cast (v':=strV (wdT (gapB4 bl) 0 ((lexR (n.take 400)).take k)++gapB4 bl k)) (.app (b:=[32]) Z Z (by simp only [Al_List_length_cons,Al_List_length_nil];omega)) (by rw [hgo];rfl))<|.aq Z<|.sq<|.sr<|.fA Z Fx.field70_2<|.lD Z Fx.agg3 Hm Z<|.mv Z<|.yw (.eql Z Z)<|.nt<|.cd Z (λh52=>?_) (λh52=>?_)
  ·try simp only [dt] at h52
   have hat:((lexR (n.take 400))[k]).o=o0:=by omega
   exact .rg<|.mv Z<|.yw (.lenS Fx.str9 Z)<|.aq Z<|.rg<|.mv Z<|.fA Z Fx.field70_1<|.lD Z Fx.agg9 Hm Z<|.yw (.app Z Z (by simp only [Al_List_length_append];omega))<|.a Z Z<|.nl<|.bN<|.tN<|.rg<|.yw (.add Z Z w7)<|.mv Z<|.nt<|.ag (x:=(k,H3)) (k+1,H3) ⟨by rw [wd_at hk];exact congrArg (λs=>some (strV s)) (by simp only [Al_List_append_assoc]),by first | exact congrArg (λm:Nat=>some (Value.int .i64 (m:Int))) (plN_hit hk hat).symm | exact congrArg (λm:Nat=>some (Value.int .i64 (m:Int))) (plN_mis hk hat).symm,Z,Jt⟩ ⟨Z,Z,Z,Z,Z,Z,Z,Jt⟩ (λ_ s=>s.pick [1] [_] Z Z) ⟨by show k+1<=_;omega,u3⟩ (by show (lexR (n.take 400)).length - (k+1)<(lexR (n.take 400)).length - k;omega)
  try simp only [df] at h52
  have hat:¬ ((lexR (n.take 400))[k]).o=o0:=by omega
  exact .sk<|.tN<|.rg<|.mv Z<|.fA Z Fx.field70_1<|.lD Z Fx.agg9 Hm Z<|.yw (.app Z Z (by simp only [Al_List_length_append];omega))<|.a Z Z<|.nl<|.bN<|.tN<|.rg<|.yw (.add Z Z w7)<|.mv Z<|.nt<|.ag (x:=(k,H3)) (k+1,H3) ⟨by rw [wd_at hk];exact congrArg (λs=>some (strV s)) (by simp only [Al_List_append_assoc]),by first | exact congrArg (λm:Nat=>some (Value.int .i64 (m:Int))) (plN_hit hk hat).symm | exact congrArg (λm:Nat=>some (Value.int .i64 (m:Int))) (plN_mis hk hat).symm,Z,Jt⟩ ⟨Z,Z,Z,Z,Z,Z,Z,Jt⟩ (λ_ s=>s.pick [1] [_] Z Z) ⟨by show k+1<=_;omega,u3⟩ (by show (lexR (n.take 400)).length - (k+1)<(lexR (n.take 400)).length - k;omega)
 obtain rfl:k=(lexR (n.take 400)).length:=by omega
 rw [Al_List_take_length] at hwl|-;refine .ex<|.eb<|.sm Z<|.ct (X:=List Value) Fx.call26 Z (λW s=>fparse_is H3 (((GL.up u1.up).up u2.up).up u3.up) (((G.up u1.up).up u2.up).up u3.up) (wdT (gapB4 bl) 0 (lexR (n.take 400))) f0 o1 e0 (by omega) hp2 W s.agr) Z λx4 H5 hx4 u5=>?_
 have hx1a:=hx1.up ((u2.trans u3).trans u5).up;refine .mv Z<|.yw (.extract Z Z)<|.yw (.extract Z Z)<|.yw (.extract Z Z)<|.al Fx.zero35 Z λb13=>.sV .head Z Z Fx.size35 (fm_len hx4) hx4.one Z<|.a Z Z<|.aq Z<|.sq<|.sm Z<|.mv Z<|.yw (.cast (.neq Z Z) (congrArg Value.bool (Al_decide_eq_false (λh=>h Z))))<|.mv Z<|.gy (.loadW Z Fx.agg35 mem1 (fm_len hx1))<|.gy (.loadW Z Fx.agg35 Hm (fm_len hx4))<|.gy (.cast (.call Fx.call24 Z (λW s=>fequal_any H5 f0 f0 4 hf4.1 (by omega) (by decide) _ _ W hx1a hx4 s.agr)) (congrArg Value.bool (eqP_iff.2 Z)))<|.gy (.not Z)<|.yw (.pickF Z Z)<|.nt<|.cF Z<|.sk<|.tN<|.sq<|.bk<|.sm Z<|.yw (.eql Z Z)<|.mv Z<|.b2 (λh78=>?_) (λh78=>?_)
 ·have he8:e0=8:=by have:=Al_of_decide_eq_true h78;omega
  refine .gy (.move Z)<|.gy (.move Z)<|.gy (.lenS Fx.str9 Z)<|.gy (.eql Z Z)<|.yw (.pickT Z Z)<|.aq Z<|.cd Z (λh75=>?_) (λh75=>?_)
  ·have ho:o0=(n.take 400).length:=by have:=Al_of_decide_eq_true h75;omega
   refine .sm Z<|.mv Z<|.yw (.lenS Fx.str9 Z)<|.yw (.cast (.eql Z Z) (congrArg Value.bool (Al_decide_eq_true (by rw [hq1 he8 ho]))))<|.az Z<|.bR<|.tR<|?_
   exact y9 Z Z λW s=>⟨Z,((((u1.trans u2).trans u3).trans u5).grow s).ext⟩
  have hno:¬ o0=(n.take 400).length:=λe=>Al_of_decide_eq_false h75 (by rw [e]);refine .sq<|.sm Z<|.yw (.cast (.eql Z Z) (congrArg Value.bool (Al_decide_eq_true (by rw [he8];rfl))))<|.aq Z<|.cT Z<|.sk<|.tN<|.cT Z<|.sm Z<|.mv Z<|.yw (.cast (.eql Z Z) (congrArg Value.bool (Al_decide_eq_true (by rw [hq2 (λe=>hno e.2) (.inl he8)]))))<|.az Z<|.bR<|.tR<|?_
  exact y9 Z Z λW s=>⟨Z,((((u1.trans u2).trans u3).trans u5).grow s).ext⟩
 have hn8:¬ e0=8:=λe=>Al_of_decide_eq_false h78 (by rw [e];rfl);refine .gG<|.gG<|.gG<|.gG<|.yw (.pickF Z Z)<|.aq Z<|.cF Z<|.sq<|.sm Z<|.yw (.cast (.eql Z Z) (congrArg Value.bool (Al_decide_eq_false (λe=>hn8 (by omega)))))<|.aq Z<|.cF Z<|.rg<|.mv Z<|.yw (.eql Z Z)<|.aq Z<|.cd Z (λh88=>?_) (λh88=>?_)
 ·have he2:e0=2:=by have:=Al_of_decide_eq_true h88;omega
  refine .sm Z<|.mv Z<|.yw (.cast (.eql Z Z) (congrArg Value.bool (Al_decide_eq_true (by rw [hq2 (λe=>hn8 e.1) (.inr he2)]))))<|.az Z<|.bR<|.tR<|?_
  exact y9 Z Z λW s=>⟨Z,((((u1.trans u2).trans u3).trans u5).grow s).ext⟩
 have hn2:¬ e0=2:=λe=>Al_of_decide_eq_false h88 (by rw [e];rfl);refine .sk<|.bN<|.tN<|.sm Z<|.yw (.cast (.eql Z Z) (congrArg Value.bool (Al_decide_eq_true (by rw [hq3 (λe=>e.elim hn8 hn2)];rfl))))<|.az Z<|?_
 exact y9 Z Z λW s=>⟨Z,((((u1.trans u2).trans u3).trans u5).grow s).ext⟩
variable {H:Type} {enc:TypeId × Value->H}
theorem wrap {a:Assume} {C:Checked} {os:Os} {f:FuncId} {fn:Func} {s:ChangeSpec} {conds:List PathCond} {apart fresh handsOn again:Bool} {X:World->Array Value->Prop} 
 (hX:∀ (w w':World) (args:Array Value),w.heap=w'.heap->X w args->X w' args)
 (own:ownKnob C.prog.godebug=none) (started:os.Started) (noInit:C.prog.inits.idxOf? f=none) (hfn:C.prog.funcs[f]? = some fn)
 (witness:∃ (w:World) (tape:Tape) (i:Input),w.os=os/\(w.forCall tape i).Shaped C.prog/\i.vars=[]/\Input.okWide C.prog (w.forCall tape i) .any w.heap.size f i /\
  ((s.pre enc C.prog fn conds apart (w.forCall tape i).memory i.args/\X (w.forCall tape i).memory i.args)/\sizedMet enc C.prog fn (OpenSpec.ofChange s) apart (w.forCall tape i).memory i.args)/\a.holds C.prog (lone (Frame.enter C.prog f i.args .normal) [] (w.forCall tape i)))
 (contract:∀ (W:World) (base:Nat) (args:Array Value) (ds gs:List (DataW H)) (before:List MemPlace),
  (∀ (j:Nat) t v,fn.params[j]? = some t->args[j]? = some v->Value.okWide C.prog W .any base t v) ->
  DataW.Whole enc C.prog fn.params.toList s.vars apart W args.toList ds gs before ->
  X W args->W.ShapedOpen C.prog ->
  Calls C.prog f args W λe W'=>∃ v,e=.returned v/\s.post enc C.prog fn apart fresh handsOn again W args v W') :
 ReturnsInHanded a C os f .any (λw args=>(s.pre enc C.prog fn conds apart w args/\X w args)/\sizedMet enc C.prog fn (OpenSpec.ofChange s) apart w args) (s.post enc C.prog fn apart fresh handsOn again):=by
 refine returnsInHanded_of_calls own started noInit witness ?_;intro w tape i _ hsh _ hok hpre _;obtain ⟨_,_,_,fn',hfn',_,_,_,_,hval⟩:=hok;have e:fn'=fn:=Al_Option_some_inj (hfn'.symm.trans hfn);subst e;obtain ⟨⟨⟨ds,gs,before,hw,_⟩,hx⟩,_⟩:=hpre;have hw':=DataW.Whole.of_heap (w':=w.forCall tape i) (by rfl) hw;refine (contract (w.forCall tape i) w.heap.size i.args ds gs before hval hw' (hX _ _ _ (by rfl) hx) hsh).mono λe W' ⟨v,he,hp⟩=>?_;subst he;exact ChangeSpec.post_blind hp

theorem own:ownKnob prg.godebug=none:=by kernel_rfl
def laids:List (String × DataW Unit):=[("math/bits.deBruijn32tab",Rows.laid_math_bits_deBruijn32tab),("math/bits.deBruijn64tab",Rows.laid_math_bits_deBruijn64tab),("internal/strconv.uint64pow10",Rows.laid_internal_strconv_uint64pow10),("rootcause/lexer.words",Rows.laid_rootcause_lexer_words),("rootcause/lexer.symbols",Rows.laid_rootcause_lexer_symbols),("rootcause/formula.shapes",Rows.laid_rootcause_formula_shapes),("rootcause/formula.symbols",Rows.laid_rootcause_formula_symbols),("rootcause/formula.words",Rows.laid_rootcause_formula_words)]
theorem gTab:prg.globalNamed "internal/strconv.uint64pow10" = some 6:=by kernel_rfl
theorem gTabT:(prg.globals[6]?).map (·.type)=some 257:=by kernel_rfl
theorem cellsTab:prg.cellsOf 257=20:=by kernel_rfl
theorem cellsTabE:prg.cellsOf 242=1:=by kernel_rfl
theorem tabEq:(Rows.laid_internal_strconv_uint64pow10:DataW Unit)=Lib.tabData .u64 Lib.pow10Tab:=by kernel_rfl
variable {W:World}
theorem gt_of (h:laidMet prg laids W):Gq (allH W):=by
 intro W' hA;have h1:Lib.TabIs prg W "internal/strconv.uint64pow10" .u64 Lib.pow10Tab:=Lib.tabIs_of_head gTab gTabT Tryz.underlying257 Tryz.underlying242 cellsTabE cellsTab (tabEq ▸ h.tail.tail);unfold Lib.TabIs World.var? at *;rw [gTab] at *;simp only [Al_Option_bind_some] at *
 split at h1
 ·rename_i cs T m hb;rw [hA 6 _ hb];exact h1
 ·cases h1
theorem gl_of (h:laidMet prg laids W):Gl (allH W) :=
 ⟨laid_mem (t:=235) (.arr 39 .strg) _ (by kernel_rfl) (by kernel_rfl) (by kernel_rfl) (by kernel_rfl) (by kernel_rfl) h.tail.tail.tail,
  laid_mem (t:=217) (.arr 25 .strg) _ (by kernel_rfl) (by kernel_rfl) (by kernel_rfl) (by kernel_rfl) (by kernel_rfl) h.tail.tail.tail.tail⟩
theorem gf_of (h:laidMet prg laids W):Gf (allH W) :=
 ⟨laid_mem (t:=163) (.arr 19 .strg) _ (by kernel_rfl) (by kernel_rfl) (by kernel_rfl) (by kernel_rfl) (by kernel_rfl) h.tail.tail.tail.tail.tail.tail.tail,
  laid_mem (t:=165) (.arr 22 .strg) _ (by kernel_rfl) (by kernel_rfl) (by kernel_rfl) (by kernel_rfl) (by kernel_rfl) h.tail.tail.tail.tail.tail.tail,
  laid_mem (t:=200) (.arr 19 (.str [.int .u8,.bool,.bool,.bool,.bool,.int .u8,.int .u8])) _ (by kernel_rfl) (by kernel_rfl) (by kernel_rfl) (by kernel_rfl) (by kernel_rfl) h.tail.tail.tail.tail.tail⟩
theorem laid_met (os:Os) (args:Array Value):laidMet prg laids ((World.laidAll prg os laids).forCall (λ_ _=>0) ⟨#[],args,[]⟩).memory :=
 laidMet_laidAll _ (by kernel_rfl) (by kernel_rfl)
theorem laid_shaped (os:Os) (args:Array Value):((World.laidAll prg os laids).forCall (λ_ _=>0) ⟨#[],args,[]⟩).Shaped prg :=
 World.shaped_of_ZipB (by kernel_rfl) (by kernel_rfl)
variable {W':World}
theorem ext_kept (h:Ext W W'):∀ may,W.keptBut W' may:=λmay=>(Ext.below h).frame may
theorem laidOut:laidOutB prg=true:=by kernel_rfl
end Go.Proofs.YtidclioghdbphaaGreatDoor
/- The walk lifted: for every input, rootcauselaw34.FormulaBlanks returns true, and its arguments read as they did (the tied card FormulaBlanksCardSaid). Conditions: the card's own (the listed package variables read as the program's initialisers lay them, tied to the text), and no others. -/
namespace Go.Proofs.YtidclioghdbphaaGreatDoor
open Go.RowKit Go.Par Go.Sx
theorem u8d_of {x:D} (h:Ty.has (.int .u8) x):∃ y:UInt8,x=.val (.int .u8 y.toNat):=by
 simp only [Ty.has] at h;obtain ⟨n,rfl,hn⟩:=h;obtain ⟨a,rfl⟩:=has_u8 hn;exact ⟨a,Z⟩
theorem seq_of {α:Type} {f:α->D} {τ:Ty} {x:D} (k:∀ y,Ty.has τ y->∃ z,y=f z) (h:Ty.has (.seq τ) x):∃ l:List α,x=.seq τ.cells (l.map f):=by
 unfold Ty.has at h;obtain ⟨ds,rfl,h1⟩:=h;obtain ⟨l,rfl⟩:=list_of (f:=f) λx hx=>k x (h1 x hx);exact ⟨l,Z⟩
variable {W:World} {b:Nat} {v:Value}
theorem open_bytes {H:Type} {enc:TypeId × Value->H} {base:Nat} {sp:Nat->Bool} {held:Bool} {d:DataW H} {p:List MemPlace} (hv:Value.okWide prg W .any b 50 v) (h:DataW.Trod enc prg W base sp held 50 v d p) :
 ∃ l:List UInt8,Rep (allH W) (.seq 1 (l.map dU8)) [v]:=by
 obtain ⟨a0,n0,c0,rfl⟩:=Go.WideShapes.okWide_slice Tryz.underlying50 hv;obtain ⟨fuel,hf⟩:=h;obtain ⟨d,hd,hr⟩:=Ty.opens W (.seq (.int .u8)) 50 fuel _ _ (by kernel_rfl) (by kernel_rfl) hf;obtain ⟨l,rfl⟩:=seq_of (f:=dU8) (λ_=>u8d_of) hd;exact ⟨l,hr⟩
theorem open_strS {H:Type} {enc:TypeId × Value->H} {base:Nat} {sp:Nat->Bool} {held:Bool} {d:DataW H} {p:List MemPlace} (hv:Value.okWide prg W .any b 9 v) (h:DataW.Trod enc prg W base sp held 9 v d p) :
 ∃ l:Str,v=strV l/\l.length<=9223372036854775807:=by
 obtain ⟨s,rfl,_,_,hs⟩:=Go.ChangeMaps.open_string Tryz.underlying9 hv h;exact ⟨s.data.toList,Z,Al_Nat_le_trans (Nat.le_of_eq (by simp)) hs⟩
namespace formulaBlanks
open Go.ChangeShapes Go.WideShapes Go.ChangeAt Go.RowKit
open Go.ChangeMaps (open_string shut_string)
theorem lifted (os:Os) (started:os.Started) (H:Type) (enc:TypeId × Value->H) :
 ReturnsInHanded {} Tryz.checked os 11 .any (λw args=>(Rows.formulaBlanksSpec.pre enc prg Tryz.f11 [] false w args/\laidMet prg laids w)/\sizedMet enc prg Tryz.f11 (OpenSpec.ofChange Rows.formulaBlanksSpec) false w args)
  (Rows.formulaBlanksSpec.post enc prg Tryz.f11 false true false false):=by
 refine wrap (C:=Tryz.checked) (X:=λw _=>laidMet prg laids w) (λ_ _ _ hh h=>h.of_heap hh) own started (by kernel_rfl) Tryz.func11
  (ChangeSpec.witness_shaped (enc:=enc) (C:=Tryz.checked) (os:=os) (X:=λw _=>laidMet prg laids w) false (World.laidAll prg os laids) #[.string ⟨#[]⟩,.slice none 0 0] 8 (World.laidAll_os _ _ _) (laid_shaped os _) (by kernel_rfl) (by kernel_rfl) (by kernel_rfl) (laid_met os _)) ?_
 intro W base args ds gs before hval0 hW hL hS;have GL:=gl_of hL;have G:=gf_of hL;have gq:=gt_of hL;have hval:∀ (j:Nat) t v,Tryz.f11.params[j]? = some t->args[j]? = some v->Value.okWide prg W .any base t v:=hval0;have hW':=hW;obtain ⟨p,q,hA0,hV,rfl,hfz,hnd⟩:=hW;have hA:DataW.TrodAll enc prg W 0 (λ_=>true) true Tryz.f11.params.toList args.toList ds p:=hA0;rw [Tryz.params11] at hA hval;obtain ⟨v0,v1,d0,d1,p0,p1,rfl,rfl,rfl,h0,h1⟩:=trodAll_two hA;obtain ⟨rfl,rfl⟩:=trodVars_none hV;have k0:=h0;have hlt0:∀ x∈p0,x.block<W.heap.size:=λx hx=>hW'.lt x (by simp [hx]);have k1:=h1;have hlt1:∀ x∈p1,x.block<W.heap.size:=λx hx=>hW'.lt x (by simp [hx]);obtain ⟨l0,e0,hl0⟩:=open_strS (hval 0 9 v0 rfl rfl) h0;subst e0;obtain ⟨l1,hr1⟩:=open_bytes (hval 1 50 v1 rfl rfl) h1;clear hA0 hval0;simp only [Al_List_append_nil] at hW';refine (formulaBlanks_any (allH W) GL G gq l0 l1 v1 hl0 hr1 W (allH_agr W)).mono λe W' ⟨he,hg⟩=>?_;subst he;refine ⟨_,Z,_,_,_,[],(p0++p1),[],hW',?_,?_,Z,ext_kept hg _,λh=>by cases h⟩
 ·exact trodAll_mk1 (shut_bool Tryz.underlying4 _)
 ·exact trodAll_mk2 (Below.trod laidOut (by kernel_rfl) (Al_of_decide_eq_true (by kernel_rfl)) k0 hg.below hlt0) (Below.trod laidOut (by kernel_rfl) (Al_of_decide_eq_true (by kernel_rfl)) k1 hg.below hlt1)
end formulaBlanks
end Go.Proofs.YtidclioghdbphaaGreatDoor
