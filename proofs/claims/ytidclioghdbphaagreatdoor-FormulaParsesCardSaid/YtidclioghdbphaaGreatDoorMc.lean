/- Texts of the proof, one behind the other. -/
import Derived.Test.YtidclioghdbphaaGreatDoorMb
import Derived.ChangeKeysEq
import Derived.RangeFuncNested
import Derived.RangeFuncLeaves
import Derived.RangeFuncCalls
import Derived.OwnWalkIn
import Derived.TacticsIn
import Derived.OrdersIn
import Derived.Test.YtidclioghdbphaaGreatDoorProg
import Derived.Lib.ItoaNum
import Derived.Lib.ItoaLen
import Derived.Lib.ParseIntB
import Derived.Lib.ParseIntBCases
import Derived.Lib.IndexMore
set_option linter.all false
set_option maxRecDepth 100000
namespace Go
noncomputable abbrev prg:=Proofs.Tryz.prog
end Go
namespace Go.Sx
open Go.RowKit Go.Par
def VA (H:Hp) (v:Value) (n:Nat) (xs:List Value):Prop:=(v=.slice none 0 0/\n=0)\/∃ b c,v=.slice (some ⟨b,0,none⟩) n c/\n<=c/\c<=maxLen/\uP H b 0 xs
variable {bs bs':List Res}
theorem Upd.new {x y:Res} (h:Upd bs x y bs'):y∈bs':=by
 induction h with
 | head=>exact .head _
 | tail _ ih=>exact .tail _ ih
variable {H H':Hp} {v:Value} {n:Nat} {xs:List Value}
theorem VA.up (h:VA H v n xs) (u:Up H H'):VA H' v n xs:=by
 rcases h with h | ⟨b,c,e,h1,h2,h3⟩
 ·exact .inl h
 ·exact .inr ⟨b,c,e,h1,h2,h3.up u⟩
section
variable {dfs:List Deferred} {P:Program} {n:Nat} {L:Sl} {H:Hp} {w0:World} {bs:List Res} {Q:Exit->Act->World->Prop} {ops:Array Oper} {rest:List Oper} {K:Act->World->Prop}
variable {d:Option Tmp} {ty:TypeId} {pos:String} {aft:Array Edge} {v:Value} {t:Tmp} {x y:Operand} {T:TypeId}
theorem St.boxRowZ {b m z:Nat} {l:List Value} {e:TypeId} {W:World} (h:St H w0 (.box b l e::bs) W) (hz:l.length=m * z) (hl:m<=maxLen):St H w0 (.row e z (.slice (some ⟨b,0,none⟩) m m) m l::bs) W:=by
 have hb:=h.own _ Hm;refine ⟨h.ext,h.agr,λx hx=>?_,?_,h.lo⟩
 ·rcases bP.1 hx with rfl | hx
  ·exact ⟨⟨hz,.inr ⟨b,m,l.toArray,Z,hb.1.1,hb.1.2,aW _,hl,by simpa using hz,by rw [<-hz];simp⟩⟩,λc e=>hb.2 c e⟩
  ·exact h.own x (.tail _ hx)
 ·have h1:=h.apart;rw [jX] at h1|-;exact ⟨λz hz c e=>h1.1 z hz c e,h1.2⟩
variable {N hn i:Nat} {pa:List (Nat × Oper × Value)} {E:Sl->Hp->List Res->Prop} {q:PlT}
theorem tG.blR {ps:List (Nat × Operand)} {pv:List (Nat × Value)} {len z k:Nat} {e:TypeId} {l:List Value} (hv:evp L ps=some pv) (hb:uO P T len pv=some (e,l)) (ht:Nat.blt t N=true) (hz:l.length=len * z) (hl:len<=maxLen)
 (h:∀ b,fU dfs P ops hn w0 N E q pa ((t,.slice (some ⟨b,0,none⟩) len len)::L) H (.row e z (.slice (some ⟨b,0,none⟩) len len) len l::bs)):tG dfs P ops hn w0 N E i k ⟨some t,.buildSlice T len ps.toArray,ty,pos,aft,none⟩ q pa L H bs :=
 ⟨rD ht,buildSlice hv hb ht λb=>reSt (λ_ s=>s.boxRowZ hz hl) (tG.into (.inr<|.inl λ_ s=>s.drop) (h b))⟩
end
section
variable {dfs:List Deferred} {P:Program} {n:Nat} {L:Sl} {H:Hp} {w0:World} {bs:List Res} {Q:Exit->Act->World->Prop} {ops:Array Oper} {rest:List Oper} {K:Act->World->Prop}
variable {d:Option Tmp} {ty:TypeId} {pos:String} {aft:Array Edge} {v:Value} {t:Tmp} {x y:Operand} {T:TypeId}
theorem UW {e:TypeId} {size bytes m c k:Nat} {p:Option Addr} {r:Value} {xs:List Value} {ds:List D} {bs':List Value->Value->List Res} (hT:AH P T=some (e,size,bytes)) (hx:ev L x=some r)
 (hm:∀ news r',Upd bs (.row e size r k xs) (.row e size r' (k+m) (xs++news)) (bs' news r')) (hy:ev L y=some (.slice p m c)) (hr:Rep H (.seq size ds) [.slice p m c])
 (h63:k+m<=maxLen) (hb:(k+m) * bytes<=140737488355328) (ht:Nat.blt t n=true)
 (h:∀ news r',eJ H size ds news->At dfs n ((t,r')::L) H w0 (bs' news r') K):At dfs n L H w0 bs (one P ops Q ⟨some t,.call ⟨.builtin .append,#[x,y],#[T,T]⟩,ty,pos,aft,none⟩ K):=by
 have hlen:=hr.len;unfold Rep at hr;obtain ⟨p',c',h1,h2,h3,h4⟩:=hr;injection h1 with h1 _
 injection h1 with e1 e2 e3
 subst e1 e3;rcases h4 with h4 | ⟨b,off,cs,rfl,hmem,hz,_⟩
 ·subst h4;obtain rfl:m=0:=e2;cases p with
  | some A=>exact aK9 hT hx (hm []) hy (λW s j u e=>by simp at e) (by simp) (by simp) h63 hb ht λr' _=>h [] r' .nil
  | none =>
   obtain ⟨hu,i,z,hi,hz,hsz,hby,hzs,h0⟩:=DH hT;have e4:bs' [] r=bs:=(hm [] r).same (by rw [kC,dO]);have h5:=h [] r .nil;rw [e4] at h5;intro a W f s;refine oN rfl ?_;unfold Oper.wp;have hown:W.ownsRow w0.heap.size e size r k xs:=(s.own _ (hm [] r).mem).1
   have hrun:(Builtin.append_ #[T,T] ty #[r,.slice none 0 c]).run P W=.ok r W:=by
    rcases hown.2 with ⟨rfl,rfl⟩ | ⟨g,cap,cur,rfl,hbg,hgc,hnc,hcm,hcs,htake⟩
    ·simp [Builtin.append_,run_underlying hu,sizeOf,typeInfo,hi,Builtin.lenOf,Builtin.firstCells]
    ·simp [Builtin.append_,run_underlying hu,sizeOf,typeInfo,hi,Builtin.lenOf,Builtin.firstCells,hnc,storeCells]
   simp [execOp,resolve,invoke,builtin,f.ev hx,f.ev hy,hrun,Result.andThen,Oper.upon];exact h5 _ _ (f.put ht _) s
 ·exact aK9 hT hx (hm cs) hy (λW s j u e=>by rw [Addr.add_lit];exact hmem.cell s.agr e) (by rw [hz.len,e2]) hz.one h63 hb ht λr' _=>h cs r' hz
theorem At.apD {e:TypeId} {size bytes m c k:Nat} {p:Option Addr} {r:Value} {xs:List Value} {ds:List D} {bs':List Value->Value->List Res} (hT:AH P T=some (e,size,bytes)) (hx:ev L x=some r)
 (hm:∀ news r',Upd bs (.row e size r k xs) (.row e size r' (k+m) (xs++news)) (bs' news r')) (hy:ev L y=some (.slice p m c)) (hr:Rep H (.seq size ds) [.slice p m c])
 (h63:k+m<=maxLen) (hb:(k+m) * bytes<=140737488355328) (ht:Nat.blt t n=true)
 (h:∀ news r',eJ H size ds news->At dfs n ((t,r')::L) H w0 (bs' news r') (wpList P ops Q rest)):At dfs n L H w0 bs (wpList P ops Q (⟨some t,.call ⟨.builtin .append,#[x,y],#[T,T]⟩,ty,pos,aft,none⟩::rest)):=cons (UW hT hx hm hy hr h63 hb ht h)
theorem At.blR {ps:List (Nat × Operand)} {pv:List (Nat × Value)} {len z:Nat} {e:TypeId} {l:List Value} (hv:evp L ps=some pv) (hb:uO P T len pv=some (e,l)) (ht:Nat.blt t n=true) (hz:l.length=len * z) (hl:len<=maxLen)
 (h:∀ b,At dfs n ((t,.slice (some ⟨b,0,none⟩) len len)::L) H w0 (.row e z (.slice (some ⟨b,0,none⟩) len len) len l::bs) (wpList P ops Q rest)):At dfs n L H w0 bs (wpList P ops Q (⟨some t,.buildSlice T len ps.toArray,ty,pos,aft,none⟩::rest)) :=
 .bl hv hb ht λb=>reSt (λ_ s=>s.boxRowZ hz hl) (h b)
theorem At.rs {e:TypeId} {size k:Nat} {r:Value} {xs:List Value} {G:Act->World->Prop} (hm:Res.row e size r k xs∈bs) (hk:0<k) (h:∀ g c,r=.slice (some ⟨g,0,none⟩) k c->At dfs n L H w0 bs G):At dfs n L H w0 bs G:=λa W f s=>by
 have ho:W.ownsRow w0.heap.size e size r k xs:=(s.own _ hm).1;rcases ho.2 with ⟨hr,h0⟩ | ⟨g,cap,cur,hr,_⟩
 ·omega
 ·exact h g cap hr a W f s
theorem Yl.loadR {e:TypeId} {size k g c off m:Nat} {xs vs:List Value} (hp:ev L x=some (.pointer (some ⟨g,off,none⟩))) (hT:lR P T=some (some m)) (hm:Res.row e size (.slice (some ⟨g,0,none⟩) k c) k xs∈bs) (hl:vs.length=m) (hv:∀ (j:Nat) u,vs[j]? = some u->xs[off+j]? = some u) {gd:Option (Nat × Bool)}:Yl P L H w0 bs ⟨d,.load T x,ty,pos,aft,gd⟩ (.agg vs.toArray):=.of_run λa W f s=>by
 subst hl;have ho:W.ownsRow w0.heap.size e size (.slice (some ⟨g,0,none⟩) k c) k xs:=(s.own _ hm).1;obtain ⟨h1,h2⟩:=vL (W:=W) hT
 have h3:(loadCells ⟨g,off,none⟩ vs.length).run P W=.ok vs.toArray W:=run_loadCells_list W _ vs λj u e=>by
  have:=World.ownsRow.cells ho (g:=g) rfl (off+j) u (hv j u e);rw [Addr.add_lit,dT] at this;rw [Addr.add_lit];exact this
 unfold execOp;simp only [f x _ hp,Instr.loadAt,Instr.sureAddr,loadVar,Sem.run_bind,Sem.run_pure,Result.andThen,h1,h2,aU,h3]
theorem Yl.fld {i:Nat} {u:Value} (hx:ev L x=some v) (hr:∀ W,(Instr.field T v i).run P W=.ok u W) {gd:Option (Nat × Bool)}:Yl P L H w0 bs ⟨d,.field T x i,ty,pos,aft,gd⟩ u:=.of_run λa W f s=>by
 unfold execOp;simp only [f x _ hx,Sem.run_bind,hr W,Result.andThen,Sem.run_pure]
theorem IT:∀ (vs l more:List Value) (off:Nat),off+vs.length<=l.length->oI (l++more) off vs=oI l off vs++more
 | [],l,more,off,_=>rfl
 | v::r,l,more,off,h=>by
  unfold oI;rw [aK] at h;rw [List.set_append_left _ _ (by omega)];exact IT r (l.set off v) more (off+1) (by rw [List.length_set];omega)
theorem KC:∀ (vs p l:List Value) (off:Nat),oI (p++l) (p.length+off) vs=p++oI l off vs
 | [],p,l,off=>rfl
 | v::r,p,l,off=>by
  unfold oI;rw [lL _ _ (by omega),show p.length+off - p.length=off by omega,dQ];exact KC r p (l.set off v) (off+1)
theorem eJ.put {H:Hp} {z:Nat} {d:D} {vs:List Value} (hd:Rep H d vs) (hz:vs.length=z):∀ {ds:List D} {l:List Value} {i:Nat},eJ H z ds l->i<ds.length->eJ H z (ds.set i d) (oI l (i * z) vs)
 | [],l,i,_,hi=>by simp at hi
 | d0::r,l,0,h,_=>by
  unfold eJ at h;obtain ⟨x,y,rfl,h1,h2,h3⟩:=h;rw [qH,pV,IT _ _ _ _ (by omega)];have:=IU vs [] x (by omega);simp only [dB,aQ] at this;rw [this];unfold eJ;exact ⟨vs,y,Z,hz,hd,h3⟩
 | d0::r,l,i+1,h,hi=>by
  unfold eJ at h;obtain ⟨x,y,rfl,h1,h2,h3⟩:=h;have:=eJ.put hd hz (i:=i) h3 (by simpa using hi);rw [List.set_cons_succ,show (i+1) * z=x.length+i * z by rw [h1,iU];omega,KC];unfold eJ;exact ⟨x,_,Z,h1,h2,this⟩
theorem zK:∀ (vs l:List Value) (off:Nat),(oI l off vs).length=l.length
 | [],l,off=>rfl
 | v::r,l,off=>by unfold oI;rw [zK r,List.length_set]
variable {N hn i:Nat} {pa:List (Nat × Oper × Value)} {E:Sl->Hp->List Res->Prop} {q:PlT} {fr:List (Nat × Nat × Oper)}
theorem dU.apD {e:TypeId} {size bytes m c k:Nat} {p:Option Addr} {r:Value} {xs:List Value} {ds:List D} {bs':List Value->Value->List Res} (hT:AH P T=some (e,size,bytes)) (hx:ev L x=some r)
 (hm:∀ news r',Upd bs (.row e size r k xs) (.row e size r' (k+m) (xs++news)) (bs' news r')) (hy:ev L y=some (.slice p m c)) (hr:Rep H (.seq size ds) [.slice p m c])
 (h63:k+m<=maxLen) (hb:(k+m) * bytes<=140737488355328) (ht:Nat.blt t N=true)
 (hr2:∀ news r',iX dfs P ops hn w0 N L H (bs' news r') i pa) (h:∀ news p c,eJ H size ds news->dU dfs P ops hn w0 N E fr pa ((t,.slice p (k+m) c)::L) H (bs' news (.slice p (k+m) c))) :
 dU dfs P ops hn w0 N E ((i,3,⟨some t,.call ⟨.builtin .append,#[x,y],#[T,T]⟩,ty,pos,aft,none⟩)::fr) pa L H bs :=
 ⟨rD ht,UW hT hx hm hy hr h63 hb ht λnews r' hz=>At.ra (hm news r').new λp c e=>by subst e;exact dU.into (.inr<|.inr<|hr2 _ _) (h news p c hz)⟩
end
section
variable {dfs:List Deferred} {P:Program}
variable {n:Nat} {L:Sl} {H:Hp} {w0:World} {bs:List Res} {d:Option Tmp} {ty:TypeId} {pos:String} {aft:Array Edge} {g:Option (Nat × Bool)} {x y:Operand} {T T':TypeId}
end
variable {z c:Nat}
theorem Rep.cells {ds:List D} {p:Option Addr} (h:Rep H (.seq z ds) [.slice p n c]):∃ cf:Nat->List Value,∀ i d,ds[i]? = some d->∃ b off,p=some ⟨b,off,none⟩/\Rep H d (cf i)/\(cf i).length=z/\kU H b (off+i * z) (cf i):=by
 classical
 refine ⟨λi=>if h:∃ cs,∀ d,ds[i]? = some d->∃ b off,p=some ⟨b,off,none⟩/\Rep H d cs/\cs.length=z/\kU H b (off+i * z) cs then Classical.choose h else [],λi d hd=>?_⟩
 have ex:∃ cs,∀ d,ds[i]? = some d->∃ b off,p=some ⟨b,off,none⟩/\Rep H d cs/\cs.length=z/\kU H b (off+i * z) cs:=by
  obtain ⟨b,off,cs,h1,h2,h3,h4⟩:=h.elem hd;refine ⟨cs,λd' hd'=>?_⟩;rw [hd] at hd';injection hd' with e
  subst e;exact ⟨b,off,h1,h2,h3,h4⟩
 simp only [OX ex];exact Classical.choose_spec ex d hd
variable {k:Nat}
theorem SX {vs l:List Value} (h:(l.drop k).take vs.length=vs):∀ (j:Nat) u,vs[j]? = some u->l[k+j]? = some u:=λj u hj=>by
 rw [<-h,List.getElem?_take] at hj
 split at hj
 ·rw [List.getElem?_drop] at hj;exact hj
 ·cases hj
section
variable {dfs:List Deferred} {P:Program} {n:Nat} {L:Sl} {H:Hp} {w0:World} {bs:List Res} {Q:Exit->Act->World->Prop} {ops:Array Oper} {rest:List Oper} {K:Act->World->Prop}
variable {d:Option Tmp} {ty:TypeId} {pos:String} {aft:Array Edge} {v:Value} {t:Tmp} {x:Operand}
theorem Yl.mkF {fn:Fn} {fs cs:List Operand} {fi ca:List Value} {g:Option (Nat × Bool)} (h1:evs L fs=some fi) (h2:evs L cs=some ca):Yl P L H w0 bs ⟨d,.makeFunc fn fs.toArray cs.toArray,ty,pos,aft,g⟩ (.func fn fi.toArray ca.toArray):=.of_run λa W f _=>by
 unfold execOp;simp [AY f h1,AY f h2,Instr.makeFunc]
theorem Fr.know {a:Act} {p:Value} (f:Fr dfs n L a) (h:look L t=some p):Fr dfs n ((t,p)::L) a:=⟨f.size,f.defers,λs u e=>by
 unfold look at e;cases hb:Nat.beq t s
 ·rw [hb,cond_false] at e;exact f.slot s u e
 ·rw [hb,lI] at e;rw [<-lK hb,<-bH e];exact f.slot t p h⟩
theorem At.cr {y z:Code} {p:Bool} (hc:look L t=some (.bool p)) (h1:p=true->At dfs n ((t,.bool true)::L) H w0 bs (y.wp P Q)) (h2:p=false->At dfs n ((t,.bool false)::L) H w0 bs (z.wp P Q)):At dfs n L H w0 bs ((Code.cond (.tmp t) y z).wp P Q) :=
 At.cd (t:=p) (by exact hc) (λe a W f s=>h1 e a W (f.know (e ▸ hc)) s) (λe a W f s=>h2 e a W (f.know (e ▸ hc)) s)
/-! ### Stores in a drawn region's head -/
section
variable {N hn i:Nat} {pa:List (Nat × Oper × Value)} {E:Sl->Hp->List Res->Prop} {r:List (Nat × Nat × Oper)} {T:TypeId} {y:Operand} {bs':List Res}
theorem dU.into0 (hr:iX dfs P ops hn w0 N L H bs' i pa) (h:dU dfs P ops hn w0 N E r pa L H bs') :
 At dfs N L H w0 bs' (λa' W'=>∃ v H' bs'',Fr dfs N (putL none v L) a'/\St H' w0 bs'' W'/\(2=1\/(∀ W,St H' w0 bs'' W->St H w0 bs W)\/iX dfs P ops hn w0 N L H' bs'' i pa)/\dU dfs P ops hn w0 N E r pa (putL none v L) H' bs''):=λ_ _ f s=>⟨undef,H,bs',f,s,.inr (.inr hr),h⟩
theorem dU.sW {b:Nat} {l vs:List Value} {t':TypeId} (hm:Upd bs (.box b l t') (.box b vs t') bs') (hp:ev L x=some (.pointer (some ⟨b,0,none⟩))) (hv:ev L y=some (.agg vs.toArray)) (hT:iP P T=some vs.length) (h1:∀ u∈vs,u.oneCell'=true) (ho:l.length=vs.length)
 (hr:iX dfs P ops hn w0 N L H bs' i pa) (h:dU dfs P ops hn w0 N E r pa L H bs'):dU dfs P ops hn w0 N E ((i,3,⟨none,.store T x y,ty,pos,aft,none⟩)::r) pa L H bs :=
 ⟨λ_ e=>(by cases e),MF hp hv hT h1 hm ho (into0 hr h)⟩
theorem dU.st {b off:Nat} {l l':List Value} {t':TypeId} (hm:Upd bs (.box b l t') (.box b l' t') bs') (hp:ev L x=some (.pointer (some ⟨b,off,none⟩))) (hv:ev L y=some v) (hT:iP P T=some 1) (h1:v.oneCell'=true) (ho:Nat.blt off l.length=true) (hl:l.set off v=l')
 (hr:iX dfs P ops hn w0 N L H bs' i pa) (h:dU dfs P ops hn w0 N E r pa L H bs'):dU dfs P ops hn w0 N E ((i,3,⟨none,.store T x y,ty,pos,aft,none⟩)::r) pa L H bs :=
 ⟨λ_ e=>(by cases e),store hp hv hT h1 hm (by simpa [nZ] using ho) hl (into0 hr h)⟩
end
section
variable {N hn i k:Nat} {pa:List (Nat × Oper × Value)} {E:Sl->Hp->List Res->Prop} {r:PlT} {T:TypeId} {y:Operand} {bs':List Res}
theorem tG.blF {ps:List (Nat × Operand)} {pv:List (Nat × Value)} {len:Nat} {e:TypeId} {l:List Value} (hv:evp L ps=some pv) (hb:uO P T len pv=some (e,l)) (ht:Nat.blt t N=true)
 (h:∀ b H1,HUp w0 H H1->uP H1 b 0 l->fU dfs P ops hn w0 N E r pa ((t,.slice (some ⟨b,0,none⟩) len len)::L) H1 bs):tG dfs P ops hn w0 N E i k ⟨some t,.buildSlice T len ps.toArray,ty,pos,aft,none⟩ r pa L H bs :=
 ⟨rD ht,buildSlice hv hb ht λb=>freezeBoxN λH1 u m=>tG.into (.inr<|.inl λ_ s=>s.weakH u.up) (h b H1 u m)⟩
theorem tG.into0 (hr:iX dfs P ops hn w0 N L H bs' i pa) (h:fU dfs P ops hn w0 N E r pa L H bs') :
 At dfs N L H w0 bs' (λa' W'=>∃ v H' bs'',Fr dfs N (putL none v L) a'/\St H' w0 bs'' W'/\(k=1\/(∀ W,St H' w0 bs'' W->St H w0 bs W)\/iX dfs P ops hn w0 N L H' bs'' i pa)/\fU dfs P ops hn w0 N E r pa (putL none v L) H' bs''):=λ_ _ f s=>⟨undef,H,bs',f,s,.inr (.inr hr),h⟩
theorem tG.sW {b:Nat} {l vs:List Value} {t':TypeId} (hm:Upd bs (.box b l t') (.box b vs t') bs') (hp:ev L x=some (.pointer (some ⟨b,0,none⟩))) (hv:ev L y=some (.agg vs.toArray)) (hT:iP P T=some vs.length) (h1:∀ u∈vs,u.oneCell'=true) (ho:l.length=vs.length)
 (hr:iX dfs P ops hn w0 N L H bs' i pa) (h:fU dfs P ops hn w0 N E r pa L H bs'):tG dfs P ops hn w0 N E i k ⟨none,.store T x y,ty,pos,aft,none⟩ r pa L H bs :=
 ⟨λ_ e=>(by cases e),MF hp hv hT h1 hm ho (tG.into0 hr h)⟩
end
end
section
variable {dfs:List Deferred} {P:Program} {L:Sl} {H:Hp} {w0:World} {bs:List Res} {ops:Array Oper}
variable {ty:TypeId} {pos:String} {aft:Array Edge} {t:Tmp}
variable {N hn i k:Nat} {pa:List (Nat × Oper × Value)} {E:Sl->Hp->List Res->Prop} {r:List (Nat × Nat × Oper)} {T:TypeId}
theorem dU.blF {ps:List (Nat × Operand)} {pv:List (Nat × Value)} {len:Nat} {e:TypeId} {l:List Value} (hv:evp L ps=some pv) (hb:uO P T len pv=some (e,l)) (ht:Nat.blt t N=true)
 (h:∀ b H1,HUp w0 H H1->uP H1 b 0 l->dU dfs P ops hn w0 N E r pa ((t,.slice (some ⟨b,0,none⟩) len len)::L) H1 bs):dU dfs P ops hn w0 N E ((i,k+1,⟨some t,.buildSlice T len ps.toArray,ty,pos,aft,none⟩)::r) pa L H bs :=
 ⟨rD ht,buildSlice hv hb ht λb=>freezeBoxN λH1 u m=>dU.into (.inr<|.inl λ_ s=>s.weakH u.up) (h b H1 u m)⟩
end
class FW (F:Fence):Prop where
 fn:∀ f,F.fn f
 depth:F.depth=none
 calls:∀ {n:Nat} {P:Program} {f:FuncId} {args:Array Value} {w:World} {R:Ending->World->Prop},Calls P f args w R->CallsIn F n P f args w R
 rows:∀ {n:Nat} {P:Program} {r:String} {args:Array Value} {w:World} {R:Value->World->Prop},Rows P r args w R->RowsIn F n P r args w R
instance:FW Fence.wide:=⟨λ_=>trivial,Z,λh=>callsIn_wide.2 h,λh c cs _=>let ⟨v,w',r,s⟩:=h c cs;⟨v,w',r,stepsIn_wide.2 s⟩⟩
instance {l:Nat}:FW (Fence.wide.inRound l):=⟨λ_=>trivial,Z,λh=>CallsIn.inRound l (callsIn_wide.2 h),λh c cs _=>let ⟨v,w',r,s⟩:=h c cs;⟨v,w',r,stepsIn_wide.2 s⟩⟩
section
variable {dfs:List Deferred} {P:Program} {n m:Nat} {L:Sl} {H:Hp} {w0:World} {bs:List Res} {Q:Exit->Act->World->Prop} {ops:Array Oper} {rest:List Oper} {K:Act->World->Prop} {F:Fence}
variable {d:Option Tmp} {ty:TypeId} {pos:String} {aft:Array Edge} {g:Option (Nat × Bool)} {v:Value} {t:Tmp} {op:Op} {x y:Operand} {T:TypeId}
theorem ZA [hF:FW F] {o:Oper} {a:Act} {w:World} (hd:∀ c,o.op≠.defer c) (h:o.wp P a w K (λ_ _ _=>False)):o.wpIn F m P a w K Q:=by
 unfold Oper.wpIn;refine ⟨λf _=>hF.fn f,?_⟩;rw [Oper.semAt_plain F _ _ hd];unfold Oper.wp at h;generalize (execOp a.eval o).run P w=r at *;cases r with
 | ok z w' =>
  cases z <;> simp only [Oper.upon] at h <;> simp only [Oper.uponIn]
  case value u=>exact h
  case skip=>exact h
  case defer d=>exact h
  case enter f args =>
   refine ⟨λe=>(by rw [hF.depth] at e;cases e),hF.calls (h.mono ?_)⟩;intro e w'' q;cases e with
   | returned v=>exact q
   | panicked c=>exact q.elim
   | outgrown=>obtain ⟨_,_,q⟩:=q;exact q.elim
  case row rw args=>exact ⟨λe=>(by rw [hF.depth] at e;cases e),hF.rows h⟩
 | halt z w' =>
  cases z <;> simp only [Oper.upon] at h
theorem bI8 [hF:FW F] {o:Oper} (hd:∀ c,o.op≠.defer c) (h:At dfs n L H w0 bs (one P ops (λ_ _ _=>False) o (wpListIn F m P ops Q rest))):At dfs n L H w0 bs (wpListIn F m P ops Q (o::rest)):=by
 intro a W f s;have h1:=h a W f s;unfold one at h1;unfold wpListIn;cases hw:Region.wanted o (yielded ops a.tmps) with
 | true =>
  rw [hw] at h1;simp only [aU] at h1|-;rcases h1 with h1 | ⟨_,_,_,h1⟩
  ·exact ZA hd h1
  ·exact h1.elim
 | false =>
  rw [hw] at h1;simp only [aB,aS] at h1|-;exact ⟨λf _=>hF.fn f,h1⟩
theorem At.rgI {id:Nat} {l:List Oper} (h:At dfs n L H w0 bs (wpListIn F m P l.toArray Q l)):At dfs n L H w0 bs ((Code.region id l.toArray false).wpIn F m P Q):=λa W f s=>wpIn_region_lit (h a W f s)
theorem At.rgW {id:Nat} {l:List Oper} (m:Nat) (h:At dfs n L H w0 bs (wpListIn Fence.wide m P l.toArray Q l)):At dfs n L H w0 bs ((Code.region id l.toArray false).wp P Q):=λa W f s=>wpIn_wide.1 (wpIn_region_lit (h a W f s))
theorem At.nlI (h:At dfs n L H w0 bs (Q .normal)):At dfs n L H w0 bs (wpListIn F m P ops Q []):=h
theorem At.yvI [FW F] (hy:Yl P L H w0 bs ⟨some t,op,ty,pos,aft,none⟩ v) (ht:Nat.blt t n=true) (h:At dfs n ((t,v)::L) H w0 bs (wpListIn F m P ops Q rest)) (hd:∀ c,op≠.defer c:=by intro c e;cases e):At dfs n L H w0 bs (wpListIn F m P ops Q (⟨some t,op,ty,pos,aft,none⟩::rest)):=bI8 hd (yl hy ht h)
theorem At.mI [FW F] (hx:ev L x=some v) (ht:Nat.blt t n=true) (h:At dfs n ((t,v)::L) H w0 bs (wpListIn F m P ops Q rest)):At dfs n L H w0 bs (wpListIn F m P ops Q (⟨some t,.move x,ty,pos,aft,none⟩::rest)):=.yvI (.move hx) ht h
theorem At.alI [FW F] {l:List Value} (hz:qK P T=some l) (ht:Nat.blt t n=true) (h:∀ b,At dfs n ((t,.pointer (some ⟨b,0,none⟩))::L) H w0 (.box b l T::bs) (wpListIn F m P ops Q rest)):At dfs n L H w0 bs (wpListIn F m P ops Q (⟨some t,.alloc T,ty,pos,aft,none⟩::rest)):=bI8 (by intro c e;cases e) (alloc hz ht h)
theorem At.sWI [FW F] {b:Nat} {l vs:List Value} {t':TypeId} {bs':List Res} (hm:Upd bs (.box b l t') (.box b vs t') bs') (hp:ev L x=some (.pointer (some ⟨b,0,none⟩))) (hv:ev L y=some (.agg vs.toArray)) (hT:iP P T=some vs.length) (h1:∀ u∈vs,u.oneCell'=true) (ho:l.length=vs.length) (h:At dfs n L H w0 bs' (wpListIn F m P ops Q rest)) :
 At dfs n L H w0 bs (wpListIn F m P ops Q (⟨none,.store T x y,ty,pos,aft,none⟩::rest)):=bI8 (by intro c e;cases e) (MF hp hv hT h1 hm ho h)
end
/-! ### The caller's side of a range over a function -/
section
variable {H:Hp} {w0 W W':World} {bs:List Res}
theorem St.beside {row:Option Nat} (s:St H w0 bs W) (g:W.grownBy W' row) (hr:∀ r,row=some r->w0.heap.size<=r/\H r=none/\∀ x∈bs,x.blk≠some r):St H w0 bs W':=by
 have hb:∀ k,k<W.heap.size->(∀ r,row=some r->k≠r)->W'.heap[k]? = W.heap[k]? := λk hk hn=>g.block k hk (λe=>hn k e.symm rfl);refine ⟨?_,⟨?_,aV s.agr.lo g.size⟩,?_,s.apart,s.lo⟩
 ·have e:=s.ext;unfold Ext at e|-;refine ⟨g.os.trans e.os,g.tape.trans e.tape,g.output.trans e.output,aV e.size g.size,λk hk=>?_⟩;exact (hb k (dR hk e.size) (λr e' h=>by have:=(hr r e').1;omega)).trans (e.block k hk)
 ·intro b o e;have:=s.agr b o e;rw [hb b (pU this) (λr e' h=>by subst h;rw [(hr b e').2.1] at e;cases e)];exact this
 ·intro x hx;exact ⟨(s.own x hx).1.keep g.size (λb e=>hb b ((s.own x hx).1.lt e).2 (λr e' h=>by subst h;exact (hr b e').2.2 x hx e)),(s.own x hx).2⟩
def WX:List Res->Bool
 | []=>true
 | .box ..::r=>WX r
 | .row ..::r=>WX r
 | _::_=>false
theorem FH:∀ {bs:List Res},WX bs=true->∀ x∈bs,∀ base,x.ok base W->∀ b,x.blk=some b->∃ o,W.heap[b]? = some o/\o.isCells=true
 | [],_,x,hx,_,_,_,_=>by cases hx
 | .box c l t::r,h,x,hx,base,ho,b,e=>by
  rcases bP.1 hx with rfl | hx
  ·obtain rfl:c=b:=bH e;exact ⟨_,ho.2,Z⟩
  ·exact FH (bs:=r) h x hx base ho b e
 | .row et size v n xs::r,h,x,hx,base,ho,b,e=>by
  rcases bP.1 hx with rfl | hx
  ·obtain ⟨_,⟨rfl,_⟩ | ⟨g,cap,cur,rfl,hg,hc,_⟩⟩:=ho
   ·cases e
   ·obtain rfl:g=b:=bH e;exact ⟨_,hc,Z⟩
  ·exact FH (bs:=r) h x hx base ho b e
 | .obj ..::_,h,_,_,_,_,_,_=>by cases h
 | .big ..::_,h,_,_,_,_,_,_=>by cases h
theorem TY (s:St H w0 bs W) (h:WX bs=true) {r:Nat} {o:Obj} (ho:W.heap[r]? = some o) (hc:o.isCells=false):∀ x∈bs,x.blk≠some r:=by
 intro x hx e;obtain ⟨o',h1,h2⟩:=FH h x hx _ (s.own x hx).1 r e;rw [ho] at h1;cases h1;rw [hc] at h2;cases h2
theorem cH4 {α Z:Type} {B:Nat} {C:List α->Z->Prop} {rs:Z->List Res} (hB:w0.heap.size<=B) (hH:∀ r,B<=r->H r=none) (hn:∀ pre z,C pre z->WX (rs z)=true) :
 OwnFrom B (λpre W=>∃ z,C pre z/\St H w0 (rs z) W):=by
 rintro pre X Y row ⟨z,hz,s⟩ hg hr
 exact ⟨z,hz,s.beside hg λr e=>by
  obtain ⟨h1,o,h2,h3⟩:=hr r e;exact ⟨aV hB h1,hH r h1,TY s (hn _ _ hz) h2 h3⟩⟩
theorem St.less {H':Hp} (s:St H' w0 bs W) (u:Up H H'):St H w0 bs W:=⟨s.ext,⟨λb o e=>s.agr b o (u b o e),u.lo ▸ s.agr.lo⟩,λx hx=>⟨(s.own x hx).1,λb e=>by
 cases h:H b with
 | none=>rfl
 | some o=>have:=(s.own x hx).2 b e;rw [u b o h] at this;cases this⟩,s.apart,u.lo ▸ s.lo⟩
theorem St.front {tl:List Res} (s:St H w0 (bs++tl) W):St H w0 bs W:=⟨s.ext,s.agr,λx hx=>s.own x (oV _ hx),(jD.1 s.apart).1,s.lo⟩
def tailOf (B:Nat) (W:World):List Res:=.big W.heap.size::(List.range' B (W.heap.size - B)).filterMap λk=>match W.heap[k]? with
 | some o=>if o.isCells then none else some (.obj k o)
 | none=>none
theorem FK {B:Nat} {x:Res} (h:x∈tailOf B W):x=.big W.heap.size\/∃ k o,x=.obj k o/\W.heap[k]? = some o/\o.isCells=false/\B<=k:=by
 rcases bP.1 h with rfl | h
 ·exact .inl Z
 ·obtain ⟨k,hk,he⟩:=qI.1 h;cases ho:W.heap[k]? with
  | none=>rw [ho] at he;cases he
  | some o =>
   rw [ho] at he;cases hc:o.isCells with
   | true=>simp [hc] at he
   | false=>exact .inr ⟨k,o,by simpa [hc] using he.symm,ho,hc,by have:=List.mem_range'_1.1 hk;omega⟩
theorem St.tailOf {B:Nat} (s:St H w0 bs W) (hn:WX bs=true) (hB:w0.heap.size<=B) (hH:∀ r,B<=r->H r=none):St H w0 (bs++tailOf B W) W:=by
 refine ⟨s.ext,s.agr,?_,jD.2 ⟨s.apart,?_,?_⟩,s.lo⟩
 ·intro x hx;rcases cK.1 hx with hx | hx
  ·exact s.own x hx
  ·rcases FK hx with rfl | ⟨k,o,rfl,ho,hc,hk⟩
   ·exact ⟨aW _,λb e=>by cases e⟩
   ·exact ⟨⟨aV hB hk,ho⟩,λb e=>by obtain rfl:k=b:=bH e;exact hH k hk⟩
 ·refine .cons (λy _ b e=>by cases e) ?_;refine List.Pairwise.filterMap _ ?_ (List.pairwise_lt_range' (s:=B) (n:=W.heap.size - B));intro k j hlt x hx y hy b e e'
  have key:∀ (m:Nat) (u:Res),(match W.heap[m]? with | some o=>if o.isCells then none else some (Res.obj m o) | none=>none)=some u->u.blk=some m:=by
   intro m u hu;cases ho:W.heap[m]? with
   | none=>rw [ho] at hu;cases hu
   | some o =>
    rw [ho] at hu;cases hc:o.isCells with
    | true=>simp [hc] at hu
    | false =>
     simp [hc] at hu;rw [<-hu];rfl
  have h1:=key k x hx;have h2:=key j y hy;rw [h1] at e;rw [h2] at e';cases e;cases e';omega
 ·intro x hx y hy b e e';rcases FK hy with rfl | ⟨k,o,rfl,ho,hc,hk⟩
  ·cases e'
  ·obtain rfl:k=b:=bH e';exact TY s hn ho hc x hx e
theorem St.keepsFrom {B:Nat} (s:St H w0 (bs++Sx.tailOf B W) W'):KeepsFrom B W W':=by
 refine ⟨?_,λk o hk ho hc=>?_⟩
 ·exact (s.own _ (oH _ (bQ ..))).1
 ·have hm:Res.obj k o∈Sx.tailOf B W:=by
   refine cI _ (qI.2 ⟨k,List.mem_range'_1.2 ?_,?_⟩)
   ·have:=pU ho;omega
   ·rw [ho];simp [hc]
  exact ((s.own _ (oH _ hm)).1).2
def KpH (H:Hp) (W W':World):Prop:=Agr H W->Agr H W'
def rE {α Z:Type} (C:List α->Z->Prop) (rs:Z->List Res) (H:Hp) (w0:World) (tl:List Res) (xs:List α):Exit->Act->World->Prop
 | .normal,_,W=>∃ z,C xs z/\St H w0 (rs z++tl) W
 | _,_,_=>False
theorem At.rE {α Z:Type} {C:List α->Z->Prop} {rs:Z->List Res} {tl:List Res} {xs:List α} {dfs:List Deferred} {n:Nat} {L:Sl} {H':Hp} (z:Z) (u:Up H H') (hz:C xs z) (hb:bs=rs z++tl) :
 At dfs n L H' w0 bs (Sx.rE C rs H w0 tl xs .normal):=λa W f s=>⟨z,hz,by rw [<-hb];exact s.less u⟩
end
/-! ### A function with a range over a function in it -/
section
variable {P:Program} {n:Nat} {L:Sl} {H:Hp} {w0:World} {bs bs':List Res} {fn:Func} {R:Ending->World->Prop} {v:Value} {D:Nat}
theorem enterM {f:FuncId} {c:Code} {args:List Value} {w:World} (hf:P.funcs[f]? = some fn) (hb:fn.body=some c) (hn:fn.ntmps=n) (hl:Nat.ble args.length n=true) (hA:Agr H w)
 (h:At [] n (KB 0 args) H w [] (c.wp P (bodyPostM Fence.wide 9 P fn R))):Calls P f args.toArray w R:=by
 refine callsIn_wide.1 (callsIn_of_wp_marks (n:=9) hf hb trivial (wpIn_wide.2 (h _ _ ⟨?_,Z,?_⟩ (.start hA))))
 ·have:args.length<=n:=lJ hl;simp [hn];omega
 ·intro t v e;obtain ⟨_,h2⟩:=HB args 0 t v e;rw [wI] at h2;have hlt:t<args.length:=(List.getElem?_eq_some_iff.1 h2).1;rw [Al_Array_getD_eq_getD_getElem?];rw [Array.getElem?_append_left (by simpa using hlt)];simp [h2]
theorem St.shut {W:World} (s:St H w0 bs W) (u:Upd bs (.obj D (.deferred (some []))) (.obj D (.deferred none)) bs'):St H w0 bs' (W.putObj D (.deferred none)):=by
 obtain ⟨h1,h2⟩:=(s.own _ u.mem).1;have hlt:=pU h2;have e:=s.ext;refine s.upd u ?_ (by simp [World.putObj]) ?_ ⟨h1,World.putObj_heap_same hlt⟩ (λb e=>.inl e)
 ·unfold Ext at e|-;exact e.grown (grownBy_putObj' W D _) (by omega) (λk e=>by cases e;exact h1)
 ·intro b _ hne;exact World.putObj_heap_other (λh=>hne (by rw [h];rfl))
theorem retM {e:Exit} (he:e=.ret\/e=.normal) (u:Upd bs (.obj D (.deferred (some []))) (.obj D (.deferred none)) bs') (h:At [] n L H w0 bs' (bodyPost P fn R .ret)) :
 At [{ target:=.collected D,args:=#[] }] n L H w0 bs (bodyPostM Fence.wide 9 P fn R e):=by
 intro a W f s;obtain ⟨_,v,h2,h3⟩:=h { a with defers:=[] } _ ⟨f.size,Z,f.slot⟩ (s.shut u)
 have h4:LeavesInM Fence.wide 9 P fn a.tmps R a.defers .returning W:=by
  rw [f.defers];exact ⟨(by intro e;cases e),.inl ⟨D,_,Z,run_takeDeferred (s.own _ u.mem).1.2,v,h2,h3⟩⟩
 rcases he with rfl | rfl <;> exact h4
end
/-! ### The iterator's side -/
section
variable {dfs:List Deferred} {P:Program} {n m l:Nat} {L:Sl} {H:Hp} {w0:World} {bs:List Res} {Q:Exit->Act->World->Prop} {ops:Array Oper} {rest:List Oper} {F:Fence}
variable {d:Option Tmp} {ty:TypeId} {pos:String} {aft:Array Edge} {g:Option (Nat × Bool)} {t:Tmp} {x:Operand} {xs:List Operand} {vs:List Value} {ats:Array TypeId}
theorem Ext.grownBy {W W':World} (e:Ext W W'):W.grownBy W' none:=by
 unfold Ext at e;exact ⟨e.os,e.tape,e.output,e.size,λk hk _=>e.block k hk⟩
theorem AbidesFrom.ext {β:Type} {B:Nat} {J:β->World->Prop} (h:AbidesFrom B J) {s:β} {W W':World} (hs:J s W) (e:Ext W W'):J s W':=h s W W' none hs (Ext.grownBy e) (λr h=>by cases h)
theorem aB5 {a:Act} {W W':World} {r:Next} (f0:∀ x u,ev L x=some u->a.eval x=u) (hx:ev L x=some (.func (.yield l) #[] #[])) (hv:evs L xs=some vs) (hr:(Instr.yield l vs.toArray).run P W=.ok r W') :
 (execOp a.eval ⟨d,.call ⟨.value x,xs.toArray,ats⟩,ty,pos,aft,g⟩).run P W=.ok r W':=by
 unfold execOp;simp [resolve,Deferred.ofValue,f0 _ _ hx,invoke,AY f0 hv,hr]
def noH:Hp:=⟨λ_=>none,0⟩
theorem At.yd [hF:FW F] {J Jx:World->Prop} (hx:ev L x=some (.func (.yield l) #[] #[])) (hv:evs L xs=some vs) (ht:Nat.blt t n=true)
 (hy:∀ W,St H w0 bs W->YieldAt F (m - 1) P l vs.toArray W λe W'=>(e=.returned (.bool true)/\J W'/\KpH H W W')\/(e=.returned (.bool false)/\Jx W'))
 (h1:∀ w1,J w1->At dfs n ((t,.bool true)::L) H w1 [] (wpListIn F m P ops Q rest))
 (h2:∀ w1,Jx w1->At dfs n ((t,.bool false)::L) noH w1 [] (wpListIn F m P ops Q rest)) :
 At dfs n L H w0 bs (wpListIn F m P ops Q (⟨some t,.call ⟨.value x,xs.toArray,ats⟩,ty,pos,aft,none⟩::rest)):=by
 intro a W f s;unfold wpListIn;rw [aM (by simp [Region.wanted])];unfold Oper.wpIn;refine ⟨λf _=>hF.fn f,?_⟩;rw [Oper.semAt_plain F _ _ (by intro c e;cases e)];obtain ⟨fn,tmps,assign,body,hr,hR⟩:=hy W s;rw [aB5 (λx u e=>f.ev e) hx hv hr];refine ⟨λe=>(by rw [hF.depth] at e;cases e),hR.mono ?_⟩;rintro e W' (⟨rfl,hj,hk⟩ | ⟨rfl,hj⟩)
 ·exact h1 W' hj _ _ (f.put ht _) (.start (hk s.agr))
 ·exact h2 W' hj _ _ (f.put ht _) (.start ⟨λb o e=>(by cases e),aP _⟩)
theorem At.lj {c:Code} {X:Type} (L':X->Sl) (J:X->World->Prop) (C:X->Prop) (μ:X->Nat) (x0:X) (hC:C x0) (hL:Sub L (L' x0)) (hJ:J x0 w0)
 (round:∀ x w1,C x->J x w1->At dfs n (L' x) H w1 [] (c.wp P (Exit.then (λa W=>∃ y w2,(C y/\μ y<μ x)/\J y w2/\Fr dfs n (L' y) a/\St H w2 [] W) Q))) :
 At dfs n L H w0 [] ((Code.loop c).wp P Q):=by
 intro a W f s;refine wp_loop_ghost (λm a W=>∃ x w1,μ x=m/\C x/\J x w1/\Fr dfs n (L' x) a/\St H w1 [] W) _ ⟨x0,w0,Z,hC,hJ,f.sub hL,s⟩ ?_;rintro m a W ⟨x,w1,rfl,hx,hj,f,s⟩;refine wp_mono (round x w1 hx hj a W f s) λe a' W' q=>?_;cases e <;> first | exact q | skip
 obtain ⟨y,w2,⟨hy,hlt⟩,hj,fy,sy⟩:=q;exact ⟨_,hlt,y,w2,Z,hy,hj,fy,sy⟩
theorem At.aj {X:Type} {J:X->World->Prop} {L':X->Sl} {C:X->Prop} {μ:X->Nat} {x:X} (y:X) (hC:C y) (hm:μ y<μ x) (hJ:J y w0) (hL:Sub L (L' y)) :
 At dfs n L H w0 [] (λa W=>∃ y w2,(C y/\μ y<μ x)/\J y w2/\Fr dfs n (L' y) a/\St H w2 [] W):=λ_ W f s=>⟨y,w0,⟨hC,hm⟩,hJ,f.sub hL,s⟩
theorem seqStops {α:Type} {gf:Nat} {lb:List Value} {enc:α->Value} {S:List α->Prop} {N:Nat} {w:World} {fn:Func} {c:Code} (hf:P.funcs[gf]? = some fn) (hb:fn.body=some c) (hn:fn.ntmps=n) (hl:Nat.ble (lb.length+1) n=true)
 (hA:∀ W,Ext w W->Agr H W)
 (h:∀ l (J Jx:List α->World->Prop) W,(∀ s A B,J s A->Ext A B->J s B)->(∀ s A B,Jx s A->Ext A B->Jx s B) ->
  (∀ pre x W1,J pre W1->pre.length<N->YieldAt Fence.wide 7 P l #[enc x] W1 λe W'=>(e=.returned (.bool true)/\J (pre++[x]) W'/\KpH H W1 W')\/(e=.returned (.bool false)/\Jx (pre++[x]) W')) ->
  J [] W->At [] n (KB 0 (.func (.yield l) #[] #[]::lb)) H W [] (c.wp P (bodyPost P fn λe W'=>(∃ v,e=.returned v)/\((∃ xs,S xs/\J xs W')\/(∃ pre,True/\Jx pre W'))))) :
 SeqStopsK Fence.wide 8 P gf lb.toArray (λx=>#[enc x]) (KpH H) S (λ_=>True) N w:=by
 intro l J Jx W hW hJ hJx hY h0;refine callsIn_wide.2 ?_;have:(#[Value.func (.yield l) #[] #[]]++lb.toArray:Array Value)=(Value.func (.yield l) #[] #[]::lb).toArray:=by simp
 rw [this];exact enter hf hb hn hl (hA W (by unfold Ext;exact hW)) (h l J Jx W (λs A B h e=>Sx.AbidesFrom.ext hJ h e) (λs A B h e=>Sx.AbidesFrom.ext hJx h e) hY h0)
end
variable {b:Nat} {W:World}
theorem Res.ok.base {x:Res} (h:x.ok c W) (hb:b<=c):x.ok b W:=by
 cases x with
 | box d l t=>exact ⟨aV hb h.1,h.2⟩
 | obj d o=>exact ⟨aV hb h.1,h.2⟩
 | big d=>exact h
 | ps et v xs =>
  obtain ⟨rfl,h0⟩ | ⟨g,cap,cur,rfl,hg,hc,hr⟩:=h
  ·exact .inl ⟨Z,h0⟩
  ·exact .inr ⟨g,cap,cur,Z,aV hb hg,hc,hr⟩
 | row et size v n xs =>
  obtain ⟨hl,⟨rfl,h0⟩ | ⟨g,cap,cur,rfl,hg,hc,hr⟩⟩:=h
  ·exact ⟨hl,.inl ⟨Z,h0⟩⟩
  ·exact ⟨hl,.inr ⟨g,cap,cur,Z,aV hb hg,hc,hr⟩⟩
variable {w0 W':World}
theorem St.join (s:St H w0 bs W) (u:HUp W H H') (k:St H' W bs' W'):St H' w0 (bs'++bs) W':=by
 refine ⟨s.ext.trans k.ext,k.agr,λx hx=>?_,jD.2 ⟨k.apart,s.apart,λx hx y hy b e e'=>?_⟩,u.up.lo ▸ s.lo⟩
 ·rcases cK.1 hx with hx | hx
  ·exact ⟨(k.own x hx).1.base s.ext.size,(k.own x hx).2⟩
  ·exact ⟨(s.own x hx).1.ext k.ext,λb e=>u.new b ((s.own x hx).2 b e) ((s.own x hx).1.lt e).2⟩
 ·have h1:=((k.own x hx).1.lt e).1;have h2:=((s.own y hy).1.lt e').2;omega
section
variable {dfs:List Deferred} {P:Program} {L:Sl} {H:Hp} {w0:World} {bs:List Res} {ops:Array Oper}
variable {ty:TypeId} {pos:String} {aft:Array Edge} {t:Tmp} {x:Operand}
variable {N hn i k:Nat} {pa:List (Nat × Oper × Value)} {E:Sl->Hp->List Res->Prop} {r:List (Nat × Nat × Oper)}
end
def Qn (Q:Exit->Act->World->Prop):Exit->Act->World->Prop
 | .normal=>Q .normal
 | _=>λ_ _=>False
def bW3 (l:List Oper):Bool:=l.all λo=>match o.op with | .defer _=>false | _=>true
section
variable {dfs:List Deferred} {P:Program} {n m:Nat} {L:Sl} {H:Hp} {w0:World} {bs:List Res} {Q:Exit->Act->World->Prop} {ops:Array Oper} {F:Fence}
theorem VK [hF:FW F] {o:Oper} {a:Act} {w:World} {K:Act->World->Prop} (hd:∀ c,o.op≠.defer c) (h:o.wp P a w K (Qn Q)):o.wpIn F m P a w K Q:=by
 unfold Oper.wpIn;refine ⟨λf _=>hF.fn f,?_⟩;rw [Oper.semAt_plain F _ _ hd];unfold Oper.wp at h;generalize (execOp a.eval o).run P w=r at *;cases r with
 | ok z w' =>
  cases z <;> simp only [Oper.upon] at h <;> simp only [Oper.uponIn]
  case value u=>exact h
  case skip=>exact h
  case defer d=>exact h
  case enter f args =>
   refine ⟨λe=>(by rw [hF.depth] at e;cases e),hF.calls (h.mono ?_)⟩;intro e w'' q;cases e with
   | returned v=>exact q
   | panicked c=>exact q.elim
   | outgrown=>obtain ⟨_,_,q⟩:=q;exact q.elim
  case row rw args=>exact ⟨λe=>(by rw [hF.depth] at e;cases e),hF.rows h⟩
 | halt z w' =>
  cases z <;> simp only [Oper.upon] at h <;> exact h.elim
theorem aL0 [hF:FW F] (hd:∀ (i:Nat) o,ops[i]? = some o->∀ c,o.op≠.defer c):∀ (fuel:Nat) (listed:Array Bool) (a:Act) (w:World),wpAny P .any ops (Qn Q) fuel listed a w->wpAnyIn F m P .any ops Q fuel listed a w
 | 0,_,_,_,h=>h
 | fuel+1,listed,a,w,h=>by
  refine ⟨h.1,λi hi=>?_⟩;have h1:=h.2 i hi;unfold wpOp at h1;unfold wpOpIn;cases ho:ops[i]? with
  | none =>
   rw [ho] at h1;exact aL0 hd fuel _ _ _ h1
  | some o =>
   rw [ho] at h1;dsimp only at h1|-;cases hw:Region.wanted o (yielded ops a.tmps) with
   | true =>
    rw [hw] at h1;simp only [aU] at h1|-;rcases h1 with h1 | ⟨_,_,_,h1⟩
    ·exact Oper.wpIn_mono (λa w k=>aL0 hd fuel _ a w k) (VK (hd i o ho) h1)
    ·exact h1.elim
   | false =>
    rw [hw] at h1;simp only [aB,aS] at h1|-;exact ⟨λf _=>hF.fn f,aL0 hd fuel _ _ _ h1⟩
theorem bC7 {l:List Oper} (h:bW3 l=true):∀ (i:Nat) o,l.toArray[i]? = some o->∀ c,o.op≠.defer c:=by
 intro i o ho c e;have hm:o∈l:=Al_List_mem_of_getElem? (by simpa using ho);have:=bC.1 h o hm;rw [e] at this;cases this
theorem At.flI [FW F] {id:Nat} {l:List Oper} {trip:List (Nat × Nat × Oper)} (nn:Nat) (ord:List (Nat × Nat)) (hm:P.follows .mixedOrders=true) (hB:RA l.toArray nn ord=true) (hd:bW3 l=true) (ht:ord.map (λx=>(x.1,x.2,l[x.1]!))=trip)
 (h:dU dfs P l.toArray nn w0 n (λL H bs=>At dfs n L H w0 bs (wpList P l.toArray (Qn Q) (l.drop nn))) trip [] L H bs):At dfs n L H w0 bs ((Code.region id l.toArray true).wpIn F m P Q) :=
 λa W f s=>wpIn_region_any hm (aL0 (bC7 hd) _ _ _ _ (aJ5 nn ord hB ht h a W f s))
theorem At.nlQ (h:At dfs n L H w0 bs (Q .normal)):At dfs n L H w0 bs (wpList P ops (Qn Q) []):=h
theorem At.bkI {id:Nat} {c:Code} (h:At dfs n L H w0 bs (c.wpIn F m P (Exit.inBlock id Q))):At dfs n L H w0 bs ((Code.block id c).wpIn F m P Q):=λa W f s=>wpIn_block (h a W f s)
end
structure Apx (H:Hp) (p:Nat) (fx:List Res) (TX:TypeId) (cs:List Value) (b:Nat) (W:World):Prop where
 blk:W.heap[b]? = some (.cells cs.toArray TX (0,0))
 new:H b=none
 head:∃ u l t m,W.heap[p]? = some (.cells (u::l).toArray t m)/\u.ownBlock≠some b
 ne:b≠p
 fix:∀ x∈fx,x.blk≠some b
theorem Apx.grow {p:Nat} {fx:List Res} {TX:TypeId} {cs:List Value} {A B:World} {row:Option Nat} (h:Apx H p fx TX cs b A) (g:A.grownBy B row) (hr:∀ r,row=some r->∃ o:Obj,A.heap[r]? = some o/\o.isCells=false):Apx H p fx TX cs b B:=by
 have key:∀ {k:Nat} {arr:Array Value} {t:TypeId} {m:Nat × Nat},A.heap[k]? = some (Obj.cells arr t m)->B.heap[k]? = some (Obj.cells arr t m):=λ{k arr t m} hk=>by
  rw [<-hk];refine g.block k (pU hk) λe=>?_;obtain ⟨o,h1,h2⟩:=hr k e.symm;rw [hk] at h1;cases h1;cases h2
 obtain ⟨u,l,t,m,h1,h2⟩:=h.head;exact ⟨key h.blk,h.new,⟨u,l,t,m,key h1,h2⟩,h.ne,h.fix⟩
section
variable {H:Hp} {w0:World}
def rsB (e:TypeId) (size p:Nat) (T:TypeId) (fx:List Res) (v:Value) (k:Nat) (xs l:List Value):List Res:=.row e size v k xs::.box p (v::l) T::fx
theorem Apx.of {p b size k:Nat} {e T TX:TypeId} {fx tl:List Res} {v:Value} {xs l cs:List Value} {W:World} (s:St H w0 (.box b cs TX::(rsB e size p T fx v k xs l++tl)) W):Apx H p fx TX cs b W:=by
 have hb:=s.own _ (bQ ..);have ha:=(jX.1 s.apart).1;refine ⟨hb.1.2,hb.2 b rfl,⟨v,l,T,_,(s.own (.box p (v::l) T) (by simp [rsB])).1.2,λe=>ha (.row _ _ v _ _) (by simp [rsB];exact .inl ⟨Z,Z,Z,Z⟩) b rfl e⟩,λe=>ha (.box p (v::l) T) (by simp [rsB]) b rfl (by rw [e];rfl),λx hx e=>ha x (by simp [rsB,hx]) b rfl e⟩
theorem Apx.st {p b size k:Nat} {e T TX:TypeId} {fx:List Res} {v:Value} {xs l cs:List Value} {W:World} (h:Apx H p fx TX cs b W) (s:St H w0 (rsB e size p T fx v k xs l) W):St (ML H b (.cells cs.toArray TX (0,0))) w0 (rsB e size p T fx v k xs l) W:=by
 refine ⟨s.ext,⟨λc o hc=>?_,s.agr.lo⟩,λx hx=>⟨(s.own x hx).1,λc hc=>?_⟩,s.apart,s.lo⟩
 ·by_cases e:c=b
  ·subst e;rw [DI] at hc;rw [<-hc];exact h.blk
  ·rw [sS e] at hc;exact s.agr c o hc
 ·rw [sS,(s.own x hx).2 c hc];intro e;subst e;unfold rsB at hx;rcases bP.1 hx with rfl | hx
  ·obtain ⟨u,l2,t,m,h1,h2⟩:=h.head;have h3:=(s.own (.box p (v::l) T) (by simp [rsB])).1.2;rw [h1] at h3;have h4:(u::l2).toArray=(v::l).toArray:=by injection h3 with h3;injection h3
   have h5:=congrArg Array.toList h4;simp only [jK] at h5;rw [h5.1] at h2;exact h2 hc
  ·rcases bP.1 hx with rfl | hx
   ·exact h.ne (bH hc).symm
   ·exact h.fix x hx hc
theorem bY2 {b:Nat} {o:Obj} (h:H b=none):Up H (ML H b o):=by
 refine ⟨λc x hc=>?_,Z⟩;rw [sS]
 ·exact hc
 ·intro e;subst e;rw [h] at hc;cases hc
theorem At.rfB {α Z:Type} {bs:List Res} {dfs:List Deferred} {P:Program} {n:Nat} {L:Sl} {Q:Exit->Act->World->Prop} {g:Operand} {pt:Tmp} {assign body:Code} {gf:Nat} {lb:Array Value} {enc:α->Value} {S:List α->Prop} {N:Nat} {e T TX:TypeId} {size p:Nat} {fx:List Res}
 (C:List α->Z->Prop) (v:Z->Value) (k:Z->Nat) (xs l:Z->List Value) (z0:Z) (L2:α->Nat->Sl) (cx:α->List Value)
 (hg:ev L g=some (.func (.func gf) #[] lb)) (eg:∀ args w,(callFunc gf args).run P w=.ok (.enter gf args) w) (ht:Nat.blt pt n=true)
 (hseq:∀ w,Agr H w->SeqStopsK Fence.wide 8 P gf lb (λx=>#[enc x]) (KpH H) S (λ_=>True) N w)
 (h0:C [] z0) (hb:bs=rsB e size p T fx (v z0) (k z0) (xs z0) (l z0)) (hn:WX fx=true)
 (hass:∀ l x bs' K,(∀ b,At [] n (L2 x b) H w0 (.box b (cx x) TX::bs') K)->At [] n ((pt,enc x)::L) H w0 bs' (assign.wpIn (Fence.wide.inRound l) 7 P (Exit.then K (λ_ _ _=>False))))
 (hbody:∀ l' pre x z tl b H2,C pre z->pre.length<N->Up H H2->kU H2 b 0 (cx x)->At [] n (L2 x b) H2 w0 (rsB e size p T fx (v z) (k z) (xs z) (l z)++tl) (body.wpIn (Fence.wide.inRound l') 7 P (Sx.rE C (λz=>rsB e size p T fx (v z) (k z) (xs z) (l z)) H w0 tl (pre++[x]))))
 (hdone:∀ D ys z,S ys->C ys z->At ({ target:=.collected D,args:=#[] }::dfs) n L H w0 (.obj D (.deferred (some []))::rsB e size p T fx (v z) (k z) (xs z) (l z)) (Q .normal)) :
 At dfs n L H w0 bs ((Code.rangeFunc g #[pt] assign body).wp P Q):=by
 intro a W f s;subst hb;have hnz:∀ z,WX (rsB e size p T fx (v z) (k z) (xs z) (l z))=true:=λz=>hn;have hB:w0.heap.size<=W.heap.size:=s.ext.size;have hH:∀ r,W.heap.size<=r->H r=none:=λr hr=>s.agr.lt hr
 refine (wpIn_wide (n:=9)).1 (wpIn_rangeFunc_ownH (n:=9) (ps:=#[pt]) (α:=α) (N:=N) (S:=S) (Sp:=λ_=>True) (encs:=λx=>#[enc x]) (Kp:=KpH H) (w0:=W) rfl (by decide) (f.ev hg) trivial eg (hseq W s.agr) (λh k q=>k (h q)) ?_ (Below.refl _ _) (λ_=>rfl)
  (λpre W=>∃ z,C pre z/\St H w0 (rsB e size p T fx (v z) (k z) (xs z) (l z)) W) (λ_ _ _=>False) (cH4 hB hH λ_ z _=>hnz z) (λ_ _ _ _ _ h _ _=>h.elim) ⟨z0,h0,s⟩ (λx a' W=>∃ b,Fr [] n (L2 x b) a'/\Apx H p fx TX (cx x) b W)
  (λx a' _ A B row h hg hr=>by obtain ⟨b,h1,h2⟩:=h;exact ⟨b,h1,h2.grow hg λr e=>(hr r e).2⟩) ?_ ?_ ?_ (λ_ _ _ _ _ _ h=>h.elim))
 ·intro W1 l o o' hl ho _ _ q;refine ⟨λb ob e=>?_,by have:=q.lo;simpa [World.putObj] using this⟩;have hne:b≠l:=λh=>by subst h;rw [hH b hl] at e;cases e
  exact (World.putObj_heap_other hne).trans (q b ob e)
 ·rintro l' pre x W1 K ⟨z,hz,s1⟩ hK
  have f1:Fr [] n ((pt,enc x)::L) { tmps:=(#[pt].zip #[enc x]).foldl (λt (p,v)=>t.setIfInBounds p v) a.tmps,defers:=[] }:=by
   have f2:Fr [] n L { a with defers:=[] }:=⟨f.size,rfl,f.slot⟩;have e:(#[pt].zip #[enc x]).foldl (λt (x:Tmp × Value)=>match x with | (p,v)=>t.setIfInBounds p v) a.tmps=a.tmps.setIfInBounds pt (enc x):=by simp
   rw [e];exact f2.put ht (enc x)
  refine hass l' x _ K ?_ _ W1 f1 (s1.tailOf (hnz z) hB hH);intro b a' W2 f' s2;have s3:=s2.drop;exact hK a' W2 s3.keepsFrom (λ_=>s3.agr) ⟨z,hz,s3.front⟩ ⟨b,f',Apx.of s2⟩
 ·rintro l' pre x a' W1 hl _ ⟨z,hz,s1⟩ ⟨b,f',hx⟩ hlen;have s2:=hx.st s1;have hH2:∀ r,W1.heap.size<=r->ML H b (Obj.cells (cx x).toArray TX (0,0)) r=none:=λr hr=>s2.agr.lt hr;have ht:=s1.tailOf (B:=W.heap.size) (hnz z) hB hH
  have s4:St (ML H b (.cells (cx x).toArray TX (0,0))) w0 (rsB e size p T fx (v z) (k z) (xs z) (l z)++Sx.tailOf W.heap.size W1) W1:=by
   refine ⟨ht.ext,s2.agr,λy hy=>?_,ht.apart,ht.lo⟩;rcases cK.1 hy with h | h
   ·exact s2.own y h
   ·refine ⟨(ht.own y hy).1,λc hc=>?_⟩;rw [sS,(ht.own y hy).2 c hc];rintro rfl;rcases FK h with rfl | ⟨d,o,rfl,ho,hc2,_⟩
    ·cases hc
    ·obtain rfl:d=c:=bH hc;rw [hx.blk] at ho;cases ho;cases hc2
  refine wpIn_mono (hbody l' pre x z _ b _ hz hlen (bY2 hx.new) ⟨_,_,_,aM rfl,λj u e=>by simpa using e⟩ a' W1 f' s4) ?_;intro e a2 W2 h;cases e with
  | normal =>
   obtain ⟨z',hz',s2⟩:=h;exact ⟨s2.keepsFrom,λ_=>s2.agr,z',hz',s2.front⟩
  | _=>exact h.elim
 ·rintro D ys W1 hD hS ⟨z,hz,s1⟩ hd;refine hdone D ys z hS hz _ W1 ⟨f.size,by show _::_=_;rw [f.defers],f.slot⟩ ⟨s1.ext,s1.agr,?_,.cons ?_ s1.apart,s1.lo⟩
  ·intro x hx;rcases bP.1 hx with rfl | hx
   ·exact ⟨⟨aV hB hD,hd⟩,λb e=>by obtain rfl:D=b:=bH e;exact hH D hD⟩
   ·exact s1.own x hx
  ·intro y hy b e e';obtain rfl:D=b:=bH e;exact TY s1 (hnz z) hd rfl y hy e'
end
theorem St.put1 {x y:Res} (h:St H w0 bs W) (u:Upd bs x y bs') (hy:y.ok w0.heap.size W) (hb:∀ b,y.blk=some b->x.blk=some b):St H w0 bs' W :=
 h.upd u h.ext (aW _) (λ_ _ _=>rfl) hy (λb e=>.inl (hb b e))
/-! ### A drawn region without an operation that waits for all others: each order of the heavy ones -/
structure VH (ops:Array Oper) (n:Nat):Prop where
 all:n=ops.size
 sel:∀ (j:Nat) (o:Oper) (cs:Array SelectCase) (b:Bool),ops[j]? = some o->o.op≠.select cs b
 back:∀ i o,ops[i]? = some o->∀ e∈o.after,Region.binds .any e=true->e.on<i
 apart:∀ j k,j<n->k<n->j≠k->∀ d,iO ops j=some d->iO ops k≠some d
 look:∀ i o,i<n->ops[i]? = some o->∀ t∈o.looksAt ops,∀ j,j<n->iO ops j=some t->Region.waitsFor .any ops i j=true
def bP6 (ops:Array Oper) (n:Nat):Bool :=
 Region.noSelect ops && decide (n=ops.size) &&
 (List.range ops.size).all (λi=>((ops[i]?).map λo=>o.after.all λe=>!Region.binds .any e || decide (e.on<i)).getD true) &&
 (List.range n).all (λi=>(List.range n).all λj=>decide (i=j) || (iO ops i).isNone || iO ops i != iO ops j) &&
 (List.range n).all (λi=>((ops[i]?).map λo=>(o.looksAt ops).all λt=>(List.range n).all λj=>iO ops j != some t || Region.waitsFor .any ops i j).getD true)
theorem VH.of {ops:Array Oper} (h:bP6 ops n=true):VH ops n:=by
 simp only [bP6,aC,aA] at h;obtain ⟨⟨⟨⟨h1,h2⟩,h5⟩,h6⟩,h7⟩:=h;refine ⟨h2,Region.noSelect_spec h1,?_,?_,?_⟩
 ·intro i o ho e he hb;have hi:i<ops.size:=(Array.getElem?_eq_some_iff.1 ho).1;have:=bC.1 h5 i (bU.2 hi);simp only [ho,mU,oJ,mK] at this;have:=this e he;simpa [hb] using this
 ·intro j k hj hk hne d hd;have:=bC.1 (bC.1 h6 j (bU.2 hj)) k (bU.2 hk);simp only [hd,hne,wH,aL,Option.isNone_some,bne_iff_ne] at this;exact λe=>this e.symm
 ·intro i o hi ho t ht j hj hd;have:=bC.1 h7 i (bU.2 hi);simp only [ho,mU,oJ] at this;have:=bC.1 (bC.1 this t ht) j (bU.2 hj);simpa [hd] using this
section
variable {dfs:List Deferred} {P:Program} {ops:Array Oper} {w0:World} {n N:Nat}
variable {l:List Oper} {a0:Act} {E:Sl->Hp->List Res->Prop} {Q:Exit->Act->World->Prop} {listed:Array Bool} {a:Act} {W:World} {val:Nat->Value} {dec:Nat->Bool} {D A:List Nat} {L:Sl} {H:Hp} {bs:List Res} {pa:List (Nat × Oper × Value)}
theorem AZ (F:VH ops n) {a0:Act} {v1 v2:Nat->Value} {S1 S2:Nat->Bool} {i:Nat} {o:Oper} (hi:i<n) (ho:ops[i]? = some o)
 (h:∀ j,j<n->Region.waitsFor .any ops i j=true->S1 j=true/\S2 j=true/\v1 j=v2 j) (t:Tmp) (ht:t∈o.looksAt ops) :
 (frm ops v1 S1 n a0).eval (.tmp t)=(frm ops v2 S2 n a0).eval (.tmp t):=by
 by_cases hw:∃ j,j<n/\iO ops j=some t
 ·obtain ⟨j,hj,hd⟩:=hw;obtain ⟨h1,h2,h3⟩:=h j hj (F.look i o hi ho t ht j hj hd);rw [FN _ S1 a0 t j h1 hd n hj (λk hk hne e=>F.apart k j hk hj hne t e hd),FN _ S2 a0 t j h2 hd n hj (λk hk hne e=>F.apart k j hk hj hne t e hd),h3]
 ·rw [yS _ S1 a0 t n (λk hk _ hd=>hw ⟨k,hk,hd⟩),yS _ S2 a0 t n (λk hk _ hd=>hw ⟨k,hk,hd⟩)]
theorem XP (F:VH ops n) {i:Nat} {o:Oper} {v:Value} (hi:i<n) (ho:ops[i]? = some o) (hd:dec i=false) :
 frm ops (upd val i v) (upd dec i true) n a0=(frm ops val dec n a0).put o.dst v:=by
 have e1:iO ops i=o.dst:=by simp [iO,ho]
 rw [pS (upd val i v) dec (upd dec i true) a0 i (gW _ _ _) hd (λk hk=>dY _ _ hk) n hi F.apart,gW,e1]
 congr 1
 refine jC _ _ _ _ a0 n λk _=>⟨Z,λhk=>dY _ _ λe=>?_⟩;subst e;rw [hd] at hk;cases hk
theorem GT.decideE (F:VH ops n) {i:Nat} {o:Oper} (I:GT dfs P ops l w0 n N a0 E listed a W val dec D L H bs pa) (hi:i<n) (ho:ops[i]? = some o) (hiD:D.contains i=false) (hwt:((List.range n).all λj=>!Region.waitsFor .any ops i j || D.contains j)=true)
 {v:Value} (hy:∀ a W,Fr dfs N L a->St H w0 bs W->Yq P ops o v a W) (hN:∀ t,o.dst=some t->t<N) :
 GT dfs P ops l w0 n N a0 E listed a W (upd val i v) (upd dec i true) (i::D) (putL o.dst v L) H bs ((i,o,v)::pa):=by
 have hdi:dec i=false:=(I.set i).trans hiD;have hdeps:∀ j,j<n->Region.waitsFor .any ops i j=true->dec j=true:=λj hj hw=>(I.set j).trans (GN hwt hj hw)
 have hii:∀ j,j<n->Region.waitsFor .any ops i j=true->j≠i:=λj hj hw e=>by
  have:=hdeps j hj hw;rw [e,hdi] at this;cases this
 have hli:st listed i=false:=by
  cases h:st listed i with
  | false=>rfl
  | true=>have:=I.sub i hi h;rw [hdi] at this;cases this
 have hput:=XP (a0:=a0) (val:=val) (v:=v) F hi ho hdi;refine ⟨I.head,?_,?_,?_,I.world,?_,?_,KT I.set,?_⟩
 ·rw [I.frame];refine jC _ _ _ _ a0 n λk _=>⟨Z,λhk=>(dY _ _ λe=>?_).symm⟩;subst e;rw [hli] at hk;cases hk
 ·rw [hput];exact I.full.putL v hN
 ·intro j hj hs
  by_cases e:j=i
  ·subst e;exact gW _ _ _
  ·rw [dY _ _ e];exact I.sub j hj hs
 ·intro j oj hj hoj hd hs W hW
  by_cases e:j=i
  ·subst e;obtain rfl:oj=o:=bH (hoj.symm.trans ho);rw [gW];refine Yq.same (λcs b=>F.sel j oj cs b ho) (λt ht=>?_) (hy _ W I.full hW);refine AZ F hj ho (λk hk hw=>?_) t ht;have hkd:=hdeps k hk hw;have hki:=hii k hk hw;exact ⟨by rw [dY _ _ hki];exact hkd,hkd,dY _ _ hki⟩
  ·rw [dY _ _ e] at hd|-;refine Yq.same (λcs b=>F.sel j oj cs b hoj) (λt ht=>?_) (I.light j oj hj hoj hd hs W hW);refine AZ F hj hoj (λk hk hw=>?_) t ht;have hkd:=I.deps j k hj hk hd hw;have hki:k≠i:=λe=>by subst e;rw [hdi] at hkd;cases hkd
   exact ⟨by rw [dY _ _ hki];exact hkd,hkd,dY _ _ hki⟩
 ·intro j oj hj hoj hd hs
  by_cases e:j=i
  ·subst e;obtain rfl:oj=o:=bH (hoj.symm.trans ho);rw [gW];exact .head _
  ·rw [dY _ _ e] at hd|-;exact .tail _ (I.past j oj hj hoj hd hs)
 ·intro j k hj hk hd hw
  by_cases e:j=i
  ·subst e;rw [dY _ _ (hii k hk hw)];exact hdeps k hk hw
  ·rw [dY _ _ e] at hd;have:=I.deps j k hj hk hd hw
   by_cases e2:k=i
   ·subst e2;exact gW _ _ _
   ·rw [dY _ _ e2];exact this
theorem GT.stepE (F:VH ops n) {i:Nat} {o:Oper} {W':World} (I:GT dfs P ops l w0 n N a0 E listed a W val dec D L H bs pa) (hi:i<n) (ho:ops[i]? = some o) (hr:i∈Region.ready .any ops listed) (hd:dec i=true) (hx:Ext W W') :
 GT dfs P ops l w0 n N a0 E (listed.setIfInBounds i true) (a.put o.dst (val i)) W' val dec D L H bs pa:=by
 have hun:st listed i=false:=(mem_ready.1 hr).1;have e1:iO ops i=o.dst:=by simp [iO,ho]
 refine ⟨I.head.set hr hi,?_,I.full,?_,I.world.more hx,?_,?_,I.set,I.deps⟩
 ·rw [I.frame,pS val (st listed) (st (listed.setIfInBounds i true)) a0 i eR hun (λk hk=>gS hk) n hi F.apart,e1]
 ·intro j hj hs
  by_cases e:j=i
  ·subst e;exact hd
  ·rw [gS e] at hs;exact I.sub j hj hs
 ·intro j oj hj hoj hdj hs;have e:j≠i:=λe=>by subst e;rw [eR] at hs;cases hs
  rw [gS e] at hs;exact I.light j oj hj hoj hdj hs
 ·intro j oj hj hoj hdj hs;have e:j≠i:=λe=>by subst e;rw [eR] at hs;cases hs
  rw [gS e] at hs;exact I.past j oj hj hoj hdj hs
theorem GT.heavyE (F:VH ops n) {i k:Nat} {o:Oper} {v:Value} {W':World} {H':Hp} {bs':List Res} (I:GT dfs P ops l w0 n N a0 E listed a W val dec D L H bs pa) (hi:i<n) (ho:ops[i]? = some o) (hiD:D.contains i=false) (hwt:((List.range n).all λj=>!Region.waitsFor .any ops i j || D.contains j)=true) (hk1:(!(k == 1) || D.all λj=>mH ops n i j)=true) (hN:∀ t,o.dst=some t->t<N) (hr:i∈Region.ready .any ops listed)
 (hs:St H' w0 bs' W') (hws:k=1\/(∀ W,St H' w0 bs' W->St H w0 bs W)\/iX dfs P ops n w0 N L H' bs' i pa) :
 GT dfs P ops l w0 n N a0 E (listed.setIfInBounds i true) (a.put o.dst v) W' (upd val i v) (upd dec i true) (i::D) (putL o.dst v L) H' bs' pa:=by
 have hdi:dec i=false:=(I.set i).trans hiD;have hdeps:∀ j,j<n->Region.waitsFor .any ops i j=true->dec j=true:=λj hj hw=>(I.set j).trans (GN hwt hj hw)
 have hii:∀ j,j<n->Region.waitsFor .any ops i j=true->j≠i:=λj hj hw e=>by
  have:=hdeps j hj hw;rw [e,hdi] at this;cases this
 have hun:st listed i=false:=(mem_ready.1 hr).1;have e1:iO ops i=o.dst:=by simp [iO,ho]
 have hput:=XP (a0:=a0) (val:=val) (v:=v) F hi ho hdi;refine ⟨I.head.set hr hi,?_,?_,?_,hs,?_,?_,KT I.set,?_⟩
 ·rw [I.frame,pS (upd val i v) (st listed) (st (listed.setIfInBounds i true)) a0 i eR hun (λk hk=>gS hk) n hi F.apart,e1,gW]
  congr 1
  refine jC _ _ _ _ a0 n λk _=>⟨Z,λhk=>(dY _ _ λe=>?_).symm⟩;subst e;rw [hun] at hk;cases hk
 ·rw [hput];exact I.full.putL v hN
 ·intro j hj hs
  by_cases e:j=i
  ·subst e;exact gW _ _ _
  ·rw [dY _ _ e];rw [gS e] at hs;exact I.sub j hj hs
 ·intro j oj hj hoj hd hs W hW;have e:j≠i:=λe=>by subst e;rw [eR] at hs;cases hs
  rw [gS e] at hs;rw [dY _ _ e] at hd|-
  have hdone:mH ops n i j=true->False:=λh1=>by
   obtain ⟨_,oi,hoi,hall⟩:=mem_ready.1 hr
   have h2:=pH I.head n i j h1 (λok hok x hx hb=>by
    obtain rfl:ok=oi:=bH (hok.symm.trans hoi);exact hall x hx hb)
   rw [getD_both hs] at h2;cases h2
  have hy:Yq P ops oj (val j) (frm ops val dec n a0) W:=by
   rcases hws with hk | hw | hw
   ·subst hk;have hjD:j∈D:=by have:=(I.set j).symm.trans hd;simpa using this
    simp only [beq_self_eq_true,vJ,aL] at hk1;exact (hdone (bC.1 hk1 j hjD)).elim
   ·exact I.light j oj hj hoj hd hs W (hw W hW)
   ·rcases hw.at (I.past j oj hj hoj hd hs) with h1 | h1
    ·exact (hdone h1).elim
    ·exact h1 _ W I.full hW
  refine Yq.same (λcs b=>F.sel j oj cs b hoj) (λt ht=>?_) hy;refine AZ F hj hoj (λk hk hw=>?_) t ht;have hkd:=I.deps j k hj hk hd hw;have hki:k≠i:=λe=>by subst e;rw [hdi] at hkd;cases hkd
  exact ⟨by rw [dY _ _ hki];exact hkd,hkd,dY _ _ hki⟩
 ·intro j oj hj hoj hd hs;have e:j≠i:=λe=>by subst e;rw [eR] at hs;cases hs
  rw [gS e] at hs;rw [dY _ _ e] at hd|-;exact I.past j oj hj hoj hd hs
 ·intro j k hj hk hd hw
  by_cases e:j=i
  ·subst e;rw [dY _ _ (hii k hk hw)];exact hdeps k hk hw
  ·rw [dY _ _ e] at hd;have:=I.deps j k hj hk hd hw
   by_cases e2:k=i
   ·subst e2;exact gW _ _ _
   ·rw [dY _ _ e2];exact this
theorem XX (hl:ops=l.toArray) (F:VH ops n) (hend:∀ L H bs,E L H bs->At dfs N L H w0 bs (Q .normal)) :
 ∀ (m:Nat) (p:Pi0) (listed:Array Bool) (a:Act) (W:World) (val:Nat->Value) (dec:Nat->Bool) (D:List Nat) (L:Sl) (H:Hp) (bs:List Res) (pa:List (Nat × Oper × Value)),cnt (st listed) n=m->okT ops n D [] p=true ->
  fU dfs P ops n w0 N E (wM l p) pa L H bs->GT dfs P ops l w0 n N a0 E listed a W val dec D L H bs pa->wpAny P .any ops Q (m+(ops.size - n)) listed a W:=by
 have hop:∀ i,i<n->ops[i]? = some l[i]! := λi hi=>by
  have h1:i<ops.size:=by have:=F.all;omega
  subst hl;have h2:i<l.length:=by simpa using h1
  simp [h2]
 intro m;induction m with
 | zero =>
  intro p;induction p with
  | done =>
   intro listed a W val dec D L H bs pa hm hok hF I;have hall:=rC _ n hm;have hsz:ops.size - n=0:=by have:=F.all;omega
   rw [hsz]
   have hrd:Region.ready .any ops listed=[]:=List.eq_nil_iff_forall_not_mem.2 λk hk=>by
    obtain ⟨h1,o,h2,_⟩:=mem_ready.1 hk;have h3:k<ops.size:=(Array.getElem?_eq_some_iff.1 h2).1;have h4:=hall k (by have:=F.all;omega);have h5:k<listed.size:=by rw [I.head.size];exact h3
    simp [st,h5] at h1 h4;rw [h4] at h1;cases h1
   have hfr:a=frm ops val dec n a0:=by
    rw [I.frame];exact jC _ _ _ _ a0 n (λk hk=>⟨by rw [hall k hk,I.sub k hk (hall k hk)],λ_=>rfl⟩)
   rw [hfr];exact At.ae (n:=N) (L:=L) hrd (hend L H bs hF) _ W I.full I.world
  | no =>
   intro listed a W val dec D L H bs pa hm hok hF I;simp [okT] at hok
  | light i r ih =>
   intro listed a W val dec D L H bs pa hm hok hF I;have hall:=rC _ n hm;simp only [okT,aC,aA,dX] at hok;have:=I.sub i hok.1.1.1.2 (hall i hok.1.1.1.2);rw [I.set i,hok.1.1.2] at this;cases this
  | alt i k r q ih1 ih2 =>
   intro listed a W val dec D L H bs pa hm hok hF I;have hall:=rC _ n hm;simp only [okT,aC,aA,dX] at hok;have:=I.sub i hok.1.1.1.1.1 (hall i hok.1.1.1.1.1);rw [I.set i,hok.1.1.1.1.2] at this;cases this
 | succ m ih =>
  have one_step:∀ (p:Pi0) (listed:Array Bool) (a:Act) (W:World) (val:Nat->Value) (dec:Nat->Bool) (D:List Nat) (L:Sl) (H:Hp) (bs:List Res) (pa:List (Nat × Oper × Value)),cnt (st listed) n=m+1->okT ops n D [] p=true ->
   fU dfs P ops n w0 N E (wM l p) pa L H bs->GT dfs P ops l w0 n N a0 E listed a W val dec D L H bs pa->(p=.done\/p=.no\/∃ i k r q,p=.alt i k r q)->wpAny P .any ops Q (m+1+(ops.size - n)) listed a W:=by
   intro p listed a W val dec D L H bs pa hm hok hF I hp;obtain ⟨k0,hk0,hun0,hbelow⟩:=DN (st listed) n (by omega);have hk0s:k0<ops.size:=by have:=F.all;omega
   have hready0:k0∈Region.ready .any ops listed:=by
    refine mem_ready.2 ⟨hun0,ops[k0],Array.getElem?_eq_getElem hk0s,λe he hb=>?_⟩;have hlt:=F.back k0 _ (Array.getElem?_eq_getElem hk0s) e he hb;have:=hbelow e.on hlt;have hsz:e.on<listed.size:=by rw [I.head.size];omega
    simpa [st,hsz] using this
   rw [show m+1+(ops.size - n)=(m+(ops.size - n))+1 by omega];refine ⟨λh0=>(by rw [h0] at hready0;cases hready0),λj hj=>?_⟩
   have hjn:j<n:=by
    rcases iA j n with h | h
    ·exact h
    ·exfalso
     obtain ⟨_,oj,hoj,_⟩:=mem_ready.1 hj;have h3:j<ops.size:=(Array.getElem?_eq_some_iff.1 hoj).1;have:=F.all;omega
   obtain ⟨hun,oj,hoj,hall⟩:=mem_ready.1 hj
   have hcnt:cnt (st (listed.setIfInBounds j true)) n=m:=by
    have:=xW (st listed) (st (listed.setIfInBounds j true)) j eR hun (λk hk=>gS hk) n hjn;omega
   have hS:∀ k,k<n->Region.waitsFor .any ops j k=true->st listed k=true:=by
    intro k hk hw;obtain ⟨oi,hoi,e,he,hb,hon⟩:=Region.waitsFor_spec hw;obtain rfl:oi=oj:=bH (hoi.symm.trans hoj);have h1:=hall e he hb;rw [hon] at h1;have hsz:k<listed.size:=by rw [I.head.size];have:=F.all;omega
    simp [hsz] at h1;simp [st,hsz,h1]
   have hev:∀ t∈oj.looksAt ops,a.eval (.tmp t)=(frm ops val dec n a0).eval (.tmp t):=λt ht=>by
    rw [I.frame];exact AZ F hjn hoj (λk hk hw=>⟨hS k hk hw,I.sub k hk (hS k hk hw),Z⟩) t ht
   cases hd:dec j with
   | true =>
    have hy:Yq P ops oj (val j) a W:=Yq.same (λcs b=>F.sel j oj cs b hoj) hev (I.light j oj hjn hoj hd hun W I.world);exact hy.wpOp hoj λW' hx=>ih p _ _ _ _ _ _ _ _ _ _ hcnt hok hF (I.stepE F hjn hoj hj hd hx)
   | false =>
    have hjD:D.contains j=false:=(I.set j).symm.trans hd
    have hch:p=.no\/∃ i k r q',p=.alt i k r q':=by
     rcases hp with rfl | rfl | h
     ·exfalso
      simp only [okT,aC] at hok;have:=bC.1 hok.2 j (bU.2 hjn);rw [hjD] at this;cases this
     ·exact .inl Z
     ·exact .inr h
    obtain ⟨k,r,h1,h2,h3,h4,h5⟩:=NT hl hjn hjD (λi hi hin=>by
     cases hre:mH ops n j i with
     | false=>rfl
     | true =>
      have h2:=pH I.head n j i hre (λok hok e he hb=>by
       obtain rfl:ok=oj:=bH (hok.symm.trans hoj);exact hall e he hb)
      have h3:st listed i=false:=by
       cases h:st listed i with
       | false=>rfl
       | true=>have:=I.sub i hin h;rw [I.set i,hi] at this;cases this
      rw [getD_both h3] at h2;cases h2) p [] hch hok (λi hi=>by cases hi) hF
    have hoj2:=hop j hjn;obtain rfl:oj=l[j]! := bH (hoj.symm.trans hoj2);refine MP hoj (λcs b=>F.sel j _ cs b hoj) hev (λb W' ⟨v,H',bs',hf,_⟩=>hf.defers) I.full.defers ?_ (h5 _ W I.full I.world);rintro v W' ⟨v',H',bs',hf,hs,hw,hp'⟩
    have hvv:putL (l[j]!).dst v' L=putL (l[j]!).dst v L:=by
     cases hdst:(l[j]!).dst with
     | none=>rfl
     | some t =>
      rw [hdst] at hf;have h1:=hf.slot t v' (by unfold putL look;rw [lU,lI]);have h2:t<N:=h4 t hdst;have h3:=(I.full.put (by simpa [nZ] using h2) v).slot t v (by unfold look;rw [lU,lI]);rw [h3] at h1;rw [h1]
    rw [hvv] at hp';exact ih r _ _ _ _ _ _ _ _ _ _ hcnt h3 hp' (I.heavyE F hjn hoj hjD h1 h2 h4 hj hs hw)
  intro p;induction p with
  | done=>exact λlisted a W val dec D L H bs pa hm hok hF I=>one_step _ listed a W val dec D L H bs pa hm hok hF I (.inl Z)
  | no=>exact λlisted a W val dec D L H bs pa hm hok hF I=>one_step _ listed a W val dec D L H bs pa hm hok hF I (.inr (.inl Z))
  | alt i k r q _ _=>exact λlisted a W val dec D L H bs pa hm hok hF I=>one_step _ listed a W val dec D L H bs pa hm hok hF I (.inr (.inr ⟨_,_,_,_,Z⟩))
  | light i r ihr =>
   intro listed a W val dec D L H bs pa hm hok hF I;simp only [okT,aC,aA,dX] at hok;obtain ⟨⟨⟨⟨_,hi⟩,hiD⟩,hwt⟩,hok'⟩:=hok;unfold wM fU at hF;obtain ⟨v,hy,hN,hF'⟩:=hF;exact ihr listed a W _ _ _ _ H bs _ hm hok' hF' (I.decideE F hi (hop i hi) hiD hwt hy hN)
theorem cD0 {id:Nat} {l:List Oper} {p:PlT} {Q:Exit->Act->World->Prop} {L:Sl} {H:Hp} {bs:List Res} (n:Nat) (p0:Pi0) (hm:P.follows .mixedOrders=true) (hB:(bP6 l.toArray n && okT l.toArray n [] [] p0)=true) (ht:wM l p0=p)
 (h:fU dfs P l.toArray n w0 N (λL H bs=>At dfs N L H w0 bs (Q .normal)) p [] L H bs):At dfs N L H w0 bs ((Code.region id l.toArray true).wp P Q):=by
 simp only [aC] at hB;obtain ⟨h1,h2⟩:=hB;have F:=VH.of h1;have hlt:n=l.length:=by simpa using F.all
 subst ht;intro a W f s;refine wp_region_any hm ?_;have hsz:l.toArray.size=l.length:=by simp
 have hc0:∀ m,m<=n->cnt (st (Array.replicate l.toArray.size false)) m=m:=by
  intro m;induction m with
  | zero=>intro _;rfl
  | succ m ih =>
   intro hm;unfold cnt;rw [ih (by omega)]
   have:st (Array.replicate l.toArray.size false) m=false:=by
    have:m<l.length:=by omega
    simp [st,this]
   rw [this];simp
 have hfrm:∀ (val:Nat->Value) (m:Nat),frm l.toArray val (λ_=>false) m a=a:=λval m=>by
  induction m with
  | zero=>rfl
  | succ m ih=>unfold frm;simp [ih]
 have hall:∀ m,m<=n->∀ k,k<m->st (Array.replicate l.toArray.size false) k=false:=λm hm k hk=>by
  have:k<l.length:=by omega
  simp [st,this]
 have hh:HeadInv .any l.toArray n (Array.replicate l.toArray.size false):=by
  refine ⟨by simp,λj oj hj hl=>?_,λt ht ht'=>?_⟩
  ·exfalso
   rcases iA j l.length with h | h
   ·simp [h] at hl
   ·simp [h] at hl
  ·have:t<l.length:=by simpa using ht'
   simp [this]
 have key:=XX (Q:=Q) (a0:=a) (l:=l) rfl F (λL H bs h=>h) n p0 (Array.replicate l.toArray.size false) a _ (λ_=>undef) (λ_=>false) [] L H bs [] (hc0 n (aW _)) h2 h
  ⟨hh,?_,by rw [hfrm];exact f,?_,s.more ((Ext.refl W).drew),λ_ _ _ _ h=>(by cases h),λ_ _ _ _ h=>(by cases h),λ_=>rfl,λ_ _ _ _ h=>(by cases h)⟩
 ·have:n+(l.toArray.size - n)=l.toArray.size:=by rw [hsz];omega
  rw [this] at key;exact key
 ·rw [jC (λ_=>undef) (λ_=>undef) _ (λ_=>false) a n (λk hk=>⟨hall n (aW _) k hk,λ_=>rfl⟩),hfrm]
 ·intro i hi hs;rw [hall n (aW _) i hi] at hs;cases hs
end
section
variable {dfs:List Deferred} {P:Program} {n:Nat} {L:Sl} {H:Hp} {w0:World} {bs:List Res} {Q:Exit->Act->World->Prop} {ops:Array Oper} {rest:List Oper} {K:Act->World->Prop}
variable {d:Option Tmp} {ty:TypeId} {pos:String} {aft:Array Edge} {v:Value} {t:Tmp} {x y:Operand} {T:TypeId}
theorem bY7 {g off k c size:Nat} {e:TypeId} {xs vs:List Value} {bs':List Res} (hp:ev L x=some (.pointer (some ⟨g,off,none⟩))) (hv:ev L y=some (.agg vs.toArray)) (hT:iP P T=some vs.length) (h1:∀ u∈vs,u.oneCell'=true)
 (hm:Upd bs (.row e size (.slice (some ⟨g,0,none⟩) k c) k xs) (.row e size (.slice (some ⟨g,0,none⟩) k c) k (oI xs off vs)) bs') (ho:off+vs.length<=xs.length) (h:At dfs n L H w0 bs' K) :
 At dfs n L H w0 bs (one P ops Q ⟨none,.store T x y,ty,pos,aft,none⟩ K):=by
 intro a W f s;have ho1:W.ownsRow w0.heap.size e size (.slice (some ⟨g,0,none⟩) k c) k xs:=(s.own _ hm.mem).1;rcases ho1.2 with ⟨hr,_⟩ | ⟨g',cap,cur,hr,hbg,hgc,hnc,hcm,hcs,htake⟩
 ·cases hr
 ·injection hr with e1 _ e3
  injection e1 with e1
  injection e1 with e1
  subst e1 e3;obtain ⟨more,hmo⟩:∃ more,more=cur.toList.drop (k * size):=⟨_,Z⟩;have hcur:cur.toList=xs++more:=by rw [hmo,<-htake,eU]
  have hcur2:cur=(xs++more).toArray:=by rw [<-hcur]
  obtain ⟨b1,u1,u2⟩:=hm.mid (.box g (xs++more) e);obtain ⟨b2,u3,u4⟩:=u2.mid (.box g (oI (xs++more) off vs) e);have s1:St H w0 b1 W:=s.put1 u1 ⟨hbg,by rw [hgc,<-hcur2]⟩ (λb e=>e);refine ZO hp hv hT rfl h1 u3 (by rw [aE];omega) ?_ a W f s1;intro a W f s2;have ob:=(s2.own _ u4.mem).1;have e4:oI (xs++more) off vs=oI xs off vs++more:=IT vs xs more off ho;have hz:xs.length=k * size:=ho1.1;refine h a W f (s2.put1 u4 ⟨by rw [zK];exact hz,.inr ⟨g,c,(oI (xs++more) off vs).toArray,Z,ob.1,ob.2,hnc,hcm,?_,?_⟩⟩ (λb e=>e))
  ·rw [List.size_toArray,zK,<-hcur];simpa using hcs
  ·rw [e4];show List.take (k * size) (oI xs off vs++more)=oI xs off vs;rw [List.take_append_of_le_length (by rw [zK];omega),jU (by rw [zK];omega)]
variable {N hn i kk:Nat} {pa:List (Nat × Oper × Value)} {E:Sl->Hp->List Res->Prop} {q:PlT} {bs':List Res}
theorem tG.sR {g off k c size:Nat} {e:TypeId} {xs vs:List Value} (hp:ev L x=some (.pointer (some ⟨g,off,none⟩))) (hv:ev L y=some (.agg vs.toArray)) (hT:iP P T=some vs.length) (h1:∀ u∈vs,u.oneCell'=true)
 (hm:Upd bs (.row e size (.slice (some ⟨g,0,none⟩) k c) k xs) (.row e size (.slice (some ⟨g,0,none⟩) k c) k (oI xs off vs)) bs') (ho:off+vs.length<=xs.length)
 (hr:iX dfs P ops hn w0 N L H bs' i pa) (h:fU dfs P ops hn w0 N E q pa L H bs'):tG dfs P ops hn w0 N E i kk ⟨none,.store T x y,ty,pos,aft,none⟩ q pa L H bs :=
 ⟨λ_ e=>(by cases e),bY7 hp hv hT h1 hm ho (tG.into0 hr h)⟩
theorem tG.st {b off:Nat} {l l':List Value} {t':TypeId} (hm:Upd bs (.box b l t') (.box b l' t') bs') (hp:ev L x=some (.pointer (some ⟨b,off,none⟩))) (hv:ev L y=some v) (hT:iP P T=some 1) (h1:v.oneCell'=true) (ho:off<l.length) (hl:l.set off v=l')
 (hr:iX dfs P ops hn w0 N L H bs' i pa) (h:fU dfs P ops hn w0 N E q pa L H bs'):tG dfs P ops hn w0 N E i kk ⟨none,.store T x y,ty,pos,aft,none⟩ q pa L H bs :=
 ⟨λ_ e=>(by cases e),store hp hv hT h1 hm ho hl (tG.into0 hr h)⟩
theorem tG.apE {e:TypeId} {size bytes m c k:Nat} {p:Option Addr} {r:Value} {xs:List Value} {ds:List D} {bs':List Value->Value->List Res} (hT:AH P T=some (e,size,bytes)) (hx:ev L x=some r)
 (hm:∀ news r',Upd bs (.row e size r k xs) (.row e size r' (k+m) (xs++news)) (bs' news r')) (hy:ev L y=some (.slice p m c)) (hr:Rep H (.seq size ds) [.slice p m c]) (hpos:0<k+m)
 (h63:k+m<=maxLen) (hb:(k+m) * bytes<=140737488355328) (ht:Nat.blt t N=true)
 (hr2:∀ news r',iX dfs P ops hn w0 N L H (bs' news r') i pa) (h:∀ news g c,eJ H size ds news->fU dfs P ops hn w0 N E q pa ((t,.slice (some ⟨g,0,none⟩) (k+m) c)::L) H (bs' news (.slice (some ⟨g,0,none⟩) (k+m) c))) :
 tG dfs P ops hn w0 N E i 2 ⟨some t,.call ⟨.builtin .append,#[x,y],#[T,T]⟩,ty,pos,aft,none⟩ q pa L H bs :=
 ⟨rD ht,UW hT hx hm hy hr h63 hb ht λnews r' hz=>At.rs (hm news r').new hpos λg c e=>by subst e;exact tG.into (.inr<|.inr<|hr2 _ _) (h news g c hz)⟩
theorem fU.fe {Q:Exit->Act->World->Prop} (h:At dfs N L H w0 bs (Q .normal)):fU dfs P ops hn w0 N (λL H bs=>At dfs N L H w0 bs (Q .normal)) .done pa L H bs:=h
theorem At.fx {id:Nat} {l:List Oper} {p:PlT} (nn:Nat) (p0:Pi0) (hm:P.follows .mixedOrders=true) (hB:(bP6 l.toArray nn && okT l.toArray nn [] [] p0)=true) (ht:wM l p0=p)
 (h:fU dfs P l.toArray nn w0 n (λL H bs=>At dfs n L H w0 bs (Q .normal)) p [] L H bs):At dfs n L H w0 bs ((Code.region id l.toArray true).wp P Q):=cD0 nn p0 hm hB ht h
end
section
variable {P:Program} {L:Sl} {H:Hp} {w0:World} {bs:List Res} {d:Option Tmp} {ty:TypeId} {pos:String} {aft:Array Edge} {g:Option (Nat × Bool)} {x:Operand} {T:TypeId}
theorem Yl.neg {k:IntKind} {i c:Int} (hx:ev L x=some (.int k i)) (hw:k.wrap (0 - i)=c):Yl P L H w0 bs ⟨d,.unOp .neg T x,ty,pos,aft,g⟩ (.int k c):=.of_run λa W f _=>by
 subst hw;unfold execOp;simp [f x _ hx,Op.unary,Op.intArith]
end
section
variable {dfs:List Deferred} {n:Nat} {L:Sl} {H:Hp} {w0:World} {bs:List Res}
end
variable {t:TypeId}
theorem HUp.put {H1:Hp} {arr:Array Value} (u:HUp w0 H H1) (hb:H b=none) (hw:w0.heap.size<=b):HUp w0 H (ML H1 b (.cells arr t (0,0))):=by
 refine ⟨⟨λc o e=>?_,u.up.lo⟩,λc e hc=>?_,λc o e h0=>?_⟩
 ·have:c≠b:=λh=>by subst h;rw [hb] at e;cases e
  rw [sS this];exact u.up c o e
 ·rw [sS (by omega)];exact u.new c e hc
 ·by_cases h:c=b
  ·subst h;rw [DI] at e;cases e;exact ⟨_,_,Z⟩
  ·rw [sS h] at e;exact u.mark c o e h0
theorem HUp.cells {H1:Hp} {arr:Array Value} {m:Nat × Nat} (u:HUp w0 H H1) (hb:H b=none) (h:H1 b=some (.cells arr t m)):H1 b=some (.cells arr t (0,0)):=by
 obtain ⟨arr',t',e⟩:=u.mark b _ h hb;cases e;exact h
def Hp.at (H:Hp) (n:Nat):Hp:=⟨H.get,n⟩
section
variable {P:Program}
end
section
variable {dfs:List Deferred} {P:Program} {n:Nat} {L:Sl} {H:Hp} {w0:World} {bs:List Res} {Q:Exit->Act->World->Prop} {ops:Array Oper} {rest:List Oper} {K:Act->World->Prop}
variable {ty:TypeId} {pos:String} {aft:Array Edge} {t:Tmp} {x y:Operand} {T:TypeId}
end
section
variable {P:Program} {H:Hp} {w0 W:World} {bs:List Res}
end
section
variable {dfs:List Deferred} {P:Program} {n N hn i:Nat} {L:Sl} {H:Hp} {w0:World} {bs:List Res} {Q:Exit->Act->World->Prop} {ops:Array Oper} {rest:List Oper} {K:Act->World->Prop}
variable {ty:TypeId} {pos:String} {aft:Array Edge} {t:Tmp} {x y:Operand} {T:TypeId} {pa:List (Nat × Oper × Value)} {E:Sl->Hp->List Res->Prop} {fr:List (Nat × Nat × Oper)}
end
section
variable {dfs:List Deferred} {P:Program} {n:Nat} {L:Sl} {H:Hp} {w0:World} {bs:List Res} {Q:Exit->Act->World->Prop} {ops:Array Oper} {rest:List Oper} {K:Act->World->Prop}
variable {d:Option Tmp} {ty:TypeId} {pos:String} {aft:Array Edge} {v:Value} {t:Tmp} {x y:Operand} {T:TypeId}
theorem At.rcut {e:TypeId} {size k m g c:Nat} {xs ys:List Value} {bs':List Res} {G:Act->World->Prop} (hm:Upd bs (.row e size (.slice (some ⟨g,0,none⟩) k c) k xs) (.row e size (.slice (some ⟨g,0,none⟩) m c) m ys) bs') (hk:m<=k) (hy:ys=xs.take (m * size)) (h:At dfs n L H w0 bs' G):At dfs n L H w0 bs G:=λa W f s=>by
 have ho:W.ownsRow w0.heap.size e size (.slice (some ⟨g,0,none⟩) k c) k xs:=(s.own _ hm.mem).1;rcases ho.2 with ⟨hr,_⟩ | ⟨g',cap,cur,hr,hbg,hgc,hnc,hcm,hcs,htake⟩
 ·cases hr
 ·injection hr with e1 _ e3
  injection e1 with e1
  injection e1 with e1
  subst e1 e3;have hms:m * size<=k * size:=oT size hk;have hl:=ho.1;refine h a W f (s.put1 hm ⟨?_,.inr ⟨g,c,cur,Z,hbg,hgc,by omega,hcm,hcs,?_⟩⟩ (λb e=>e))
  ·rw [hy,dV];omega
  ·rw [hy,<-htake,List.take_take,tI hms]
theorem aG5 {g off k c size:Nat} {e:TypeId} {xs:List Value} {v:Value} {bs':List Res} (hp:ev L x=some (.pointer (some ⟨g,off,none⟩))) (hv:ev L y=some v) (hT:iP P T=some 1) (h1:v.oneCell'=true)
 (hm:Upd bs (.row e size (.slice (some ⟨g,0,none⟩) k c) k xs) (.row e size (.slice (some ⟨g,0,none⟩) k c) k (xs.set off v)) bs') (ho:off<xs.length) (h:At dfs n L H w0 bs' K) :
 At dfs n L H w0 bs (one P ops Q ⟨none,.store T x y,ty,pos,aft,none⟩ K):=by
 intro a W f s;have ho1:W.ownsRow w0.heap.size e size (.slice (some ⟨g,0,none⟩) k c) k xs:=(s.own _ hm.mem).1;rcases ho1.2 with ⟨hr,_⟩ | ⟨g',cap,cur,hr,hbg,hgc,hnc,hcm,hcs,htake⟩
 ·cases hr
 ·injection hr with e1 _ e3
  injection e1 with e1
  injection e1 with e1
  subst e1 e3;obtain ⟨more,hmo⟩:∃ more,more=cur.toList.drop (k * size):=⟨_,Z⟩;have hcur:cur.toList=xs++more:=by rw [hmo,<-htake,eU]
  have hcur2:cur=(xs++more).toArray:=by rw [<-hcur]
  obtain ⟨b1,u1,u2⟩:=hm.mid (.box g (xs++more) e);obtain ⟨b2,u3,u4⟩:=u2.mid (.box g ((xs++more).set off v) e);have s1:St H w0 b1 W:=s.put1 u1 ⟨hbg,by rw [hgc,<-hcur2]⟩ (λb e=>e);refine store hp hv hT h1 u3 (by rw [aE];omega) rfl ?_ a W f s1;intro a W f s2;have ob:=(s2.own _ u4.mem).1;have e4:(xs++more).set off v=xs.set off v++more:=List.set_append_left off v ho;have hz:xs.length=k * size:=ho1.1;refine h a W f (s2.put1 u4 ⟨by rw [List.length_set];exact hz,.inr ⟨g,c,((xs++more).set off v).toArray,Z,ob.1,ob.2,hnc,hcm,?_,?_⟩⟩ (λb e=>e))
  ·rw [List.size_toArray,List.length_set,<-hcur];simpa using hcs
  ·rw [e4];show List.take (k * size) (xs.set off v++more)=xs.set off v;rw [List.take_append_of_le_length (by rw [List.length_set];omega),jU (by rw [List.length_set];omega)]
theorem At.s1R {g off k c size:Nat} {e:TypeId} {xs:List Value} {v:Value} {bs':List Res} (hp:ev L x=some (.pointer (some ⟨g,off,none⟩))) (hv:ev L y=some v) (hT:iP P T=some 1) (h1:v.oneCell'=true)
 (hm:Upd bs (.row e size (.slice (some ⟨g,0,none⟩) k c) k xs) (.row e size (.slice (some ⟨g,0,none⟩) k c) k (xs.set off v)) bs') (ho:off<xs.length) (h:At dfs n L H w0 bs' (wpList P ops Q rest)) :
 At dfs n L H w0 bs (wpList P ops Q (⟨none,.store T x y,ty,pos,aft,none⟩::rest)):=cons (aG5 hp hv hT h1 hm ho h)
end
end Go.Sx
namespace Go.Proofs.YtidclioghdbphaaGreatDoor
open Go.RowKit Go.Par Go.Sx Tryz
theorem gR:lR prg 24=some none:=by kernel_rfl
theorem dG:lR prg 32=some none:=by kernel_rfl
theorem dS:lR prg 76=some (some 4):=by kernel_rfl
theorem fT:lR prg 83=some (some 4):=by kernel_rfl
theorem RY:cV prg 73=true:=by kernel_rfl
theorem JO:cV prg 81=true:=by kernel_rfl
theorem eI:eN prg 76 3=some 3:=by kernel_rfl
theorem kZ:eN prg 83 3=some 3:=by kernel_rfl
theorem mM:iP prg 83=some 4:=by kernel_rfl
theorem gP:slN prg 24=some 4:=by kernel_rfl
theorem dP:slN prg 32=some 4:=by kernel_rfl
theorem nD:qK prg 83=some
 [Go.Value.int Go.IntKind.i64 (Int.ofNat 0),Go.Value.string { data:={ toList:=[] } },
  Go.Value.int Go.IntKind.i64 (Int.ofNat 0),Go.Value.slice none 0 0]:=by kernel_rfl
theorem PF (e:Ex):∀ (H:Hp) (cs:List Value) (w:World),Rep H (dEx .u8 e) cs->e.depth<=1000000->Agr H w ->
 Calls prg 73 #[.agg cs.toArray] w λr w'=>r=.returned (iN e.depth)/\Ext w w':=by
 induction e using Ex.ind with | _ op nm nn args ih
 intro H cs w h he hA;rw [CV] at he;obtain ⟨p,c,rfl,hs,hnm⟩:=jB h;have hcap:=hs.cap;refine Sx.enter (H:=H) func73 rfl ntmps73 rfl hA ?_;refine .sr<|.bx Z Z Z λb1=>.a Z Z<|.ns<|.aq Z<|.sq<|.sr<|.fA Z eI<|.lD Z dG Hm Z<|.yw (.lenSl dP Z)<|.mv Z<|.nt<|.bk<|.lp (X:=Nat) [(1,_),(7,_)] ⟨Z,Z,Jt⟩ [_] (λk=>[(3,iN (Ex.deeps (args.take k))),(8,iN k)]) (λk=>H) (λk=>[]) (λk=>k<=args.length) (λk=>args.length - k) 0 (λ_ s=>s) ⟨Z,Z,Jt⟩ (by omega) λk hC=>?_
 refine .sr<|.yw (.lss Z Z)<|.nt<|.sq<|.ce Z (λh9=>?_) (λh9=>?_)
 ·have hk:k<args.length:=by omega
  obtain ⟨b5,o5,c5,hp5,r5,l5,m5⟩:=hs.elem (iL hk);cases hp5;have h1:=NQ args k;have h2:=YD hk;have h3:=NR hk;exact .sk<|.tN<|.sq<|.bk<|.sm Z<|.aq Z<|.rg<|.mv Z<|.fA Z eI<|.lD Z dG Hm Z<|.mv Z<|.yw (.indexSl dP Z Z Z (by omega) (q:=o5+k * 4) Z)<|.yw (.loadMW Z dS m5 l5)<|.yw (.call RY Z (λW s=>ih _ (bI hk) H c5 W r5 (by omega) s.agr))<|.yw (.max2 Z Z (c:=((Ex.deeps (args.take (k+1)):Nat):Int)) (by omega))<|.a Z Z<|.nl<|.bN<|.tN<|.rg<|.yw (.add Z Z w7)<|.mv Z<|.nt<|.ag (k+1) ⟨Z,Z,Jt⟩ ⟨Z,Z,Jt⟩ (λ_ s=>s) (by omega) (by omega)
 obtain rfl:k=args.length:=by omega
 rw [aY];refine .ex<|.eb<|.sm Z<|.yw (.add Z Z w7)<|.az Z<|?_
 exact y9 Z Z λW s=>⟨by rw [CV];rfl,s.ext⟩
theorem CF (e:Ex):∀ (H:Hp) (cs:List Value) (w:World),Rep H (dEx .i64 e) cs->e.depth<=1000000->Agr H w ->
 Calls prg 81 #[.agg cs.toArray] w λr w'=>r=.returned (iN e.depth)/\Ext w w':=by
 induction e using Ex.ind with | _ op nm nn args ih
 intro H cs w h he hA;rw [CV] at he;obtain ⟨p,c,rfl,hs,hnm⟩:=jB h;have hcap:=hs.cap;refine Sx.enter (H:=H) func81 rfl ntmps81 rfl hA ?_;refine .sr<|.bx Z Z Z λb1=>.a Z Z<|.ns<|.aq Z<|.sq<|.sr<|.fA Z kZ<|.lD Z gR Hm Z<|.yw (.lenSl gP Z)<|.mv Z<|.nt<|.bk<|.lp (X:=Nat) [(7,_),(8,_)] ⟨Z,Z,Jt⟩ [_] (λk=>[(3,iN (Ex.deeps (args.take k))),(9,iN k)]) (λk=>H) (λk=>[]) (λk=>k<=args.length) (λk=>args.length - k) 0 (λ_ s=>s) ⟨Z,Z,Jt⟩ (by omega) λk hC=>?_
 refine .sr<|.yw (.lss Z Z)<|.nt<|.sq<|.ce Z (λh10=>?_) (λh10=>?_)
 ·have hk:k<args.length:=by omega
  obtain ⟨b5,o5,c5,hp5,r5,l5,m5⟩:=hs.elem (iL hk);cases hp5;have h1:=NQ args k;have h2:=YD hk;have h3:=NR hk;exact .sk<|.tN<|.sq<|.bk<|.sr<|.yw (.indexSl gP Z Z Z (by omega) (q:=o5+k * 4) Z)<|.yw (.loadMW Z fT m5 l5)<|.al nD Z λb5=>.sV .head Z Z mM l5 r5.one Z<|.nt<|.rg<|.mv Z<|.yw (.loadW Z fT Hm l5)<|.yw (.call JO Z (λW s=>ih _ (bI hk) H c5 W r5 (by omega) s.agr))<|.yw (.max2 Z Z (c:=((Ex.deeps (args.take (k+1)):Nat):Int)) (by omega))<|.a Z Z<|.nl<|.bN<|.tN<|.rg<|.yw (.add Z Z w7)<|.mv Z<|.nt<|.ag (k+1) ⟨Z,Z,Jt⟩ ⟨Z,Z,Jt⟩ (λ_ s=>s.pick [1] [_] Z Z) (by omega) (by omega)
 obtain rfl:k=args.length:=by omega
 rw [aY];refine .ex<|.eb<|.sm Z<|.yw (.add Z Z w7)<|.az Z<|?_
 exact y9 Z Z λW s=>⟨by rw [CV];rfl,s.ext⟩
theorem aV8:lR prg 235=some (some 39):=by kernel_rfl
theorem aV5:bK2 prg 235=true:=by kernel_rfl
theorem aV1:PG prg 235=some (39,1):=by kernel_rfl
theorem OC:cV prg 150=true:=by kernel_rfl
theorem BI:cV prg 153=true:=by kernel_rfl
theorem aD2:cV prg 179=true:=by kernel_rfl
theorem dE:BR prg 9=true:=by kernel_rfl
theorem NA (c:UInt8) (w:World):Calls prg 150 #[ET c] w λr w'=>r=.returned (.bool (nG c))/\Ext w w':=by
 refine y6 func150 Z ntmps150 Z ?_;refine .sr<|.a Z Z<|.ns<|.mv Z<|.yw (.geq Z Z)<|.mv Z<|.e2 (λh5=>?_) (λh5=>?_)
 ·refine .gy (.move Z)<|.gy (.leq Z Z)<|.yw (.pickT Z Z)<|.mv Z<|.e2 (λh9=>?_) (λh9=>?_)
  ·refine .gG<|.gG<|.gG<|.gV<|.gV<|.gG<|.yw (.pickT Z Z)<|.az Z<|?_
   exact y9 Z Z λW s=>⟨kN (by simp only [nG,aT,aC,aA,reduceCtorEq,cD,bZ,cH,bY,dM,aZ,aB];try omega),s.ext⟩
  refine .gy (.move Z)<|.gy (.geq Z Z)<|.gy (.move Z)<|.b2 (λh12=>?_) (λh12=>?_)
  ·try simp only [dt] at h12
   refine .gy (.move Z)<|.gy (.leq Z Z)<|.gy (.pickT Z Z)<|.yw (.pickF Z Z)<|.az Z<|?_
   exact y9 Z Z λW s=>⟨kN (by simp only [nG,aT,aC,aA,reduceCtorEq,cD,bZ,cH,bY,dM,aZ,aB];try omega),s.ext⟩
  try simp only [df] at h12
  refine .gG<|.gG<|.gy (.pickF Z Z)<|.yw (.pickF Z Z)<|.az Z<|?_
  exact y9 Z Z λW s=>⟨kN (by simp only [nG,aT,aC,aA,reduceCtorEq,cD,bZ,cH,bY,dM,aZ,aB];try omega),s.ext⟩
 refine .gG<|.gG<|.yw (.pickF Z Z)<|.mv Z<|.gy (.move Z)<|.gy (.geq Z Z)<|.gy (.move Z)<|.b2 (λh12=>?_) (λh12=>?_)
 ·try simp only [dt] at h12
  refine .gy (.move Z)<|.gy (.leq Z Z)<|.gy (.pickT Z Z)<|.yw (.pickF Z Z)<|.az Z<|?_
  exact y9 Z Z λW s=>⟨kN (by simp only [nG,aT,aC,aA,reduceCtorEq,cD,bZ,cH,bY,dM,aZ,aB];try omega),s.ext⟩
 try simp only [df] at h12
 refine .gG<|.gG<|.gy (.pickF Z Z)<|.yw (.pickF Z Z)<|.az Z<|?_
 exact y9 Z Z λW s=>⟨kN (by simp only [nG,aT,aC,aA,reduceCtorEq,cD,bZ,cH,bY,dM,aZ,aB];try omega),s.ext⟩
theorem DM (c:UInt8) (w:World):Calls prg 153 #[ET c] w λr w'=>r=.returned (.bool (iC c))/\Ext w w':=by
 refine y6 func153 Z ntmps153 Z ?_;refine .sr<|.a Z Z<|.ns<|.mv Z<|.yw (.geq Z Z)<|.mv Z<|.e2 (λh5=>?_) (λh5=>?_)
 ·refine .gy (.move Z)<|.gy (.leq Z Z)<|.yw (.pickT Z Z)<|.az Z<|?_
  exact y9 Z Z λW s=>⟨kN (by simp only [iC,aT,aC,aA,reduceCtorEq,cD,bZ,cH,bY,dM,aZ,aB];try omega),s.ext⟩
 refine .gG<|.gG<|.yw (.pickF Z Z)<|.az Z<|?_
 exact y9 Z Z λW s=>⟨kN (by simp only [iC,aT,aC,aA,reduceCtorEq,cD,bZ,cH,bY,dM,aZ,aB];try omega),s.ext⟩
theorem KD (c:UInt8) (w:World):Calls prg 124 #[ET c] w λr w'=>r=.returned (.bool (nG c))/\Ext w w':=by
 refine y6 func124 Z ntmps124 Z ?_;refine .sr<|.a Z Z<|.ns<|.mv Z<|.yw (.geq Z Z)<|.mv Z<|.e2 (λh5=>?_) (λh5=>?_)
 ·refine .gy (.move Z)<|.gy (.leq Z Z)<|.yw (.pickT Z Z)<|.mv Z<|.e2 (λh9=>?_) (λh9=>?_)
  ·refine .gG<|.gG<|.gG<|.gV<|.gV<|.gG<|.yw (.pickT Z Z)<|.az Z<|?_
   exact y9 Z Z λW s=>⟨kN (by simp only [nG,aT,aC,aA,reduceCtorEq,cD,bZ,cH,bY,dM,aZ,aB];try omega),s.ext⟩
  refine .gy (.move Z)<|.gy (.geq Z Z)<|.gy (.move Z)<|.b2 (λh12=>?_) (λh12=>?_)
  ·try simp only [dt] at h12
   refine .gy (.move Z)<|.gy (.leq Z Z)<|.gy (.pickT Z Z)<|.yw (.pickF Z Z)<|.az Z<|?_
   exact y9 Z Z λW s=>⟨kN (by simp only [nG,aT,aC,aA,reduceCtorEq,cD,bZ,cH,bY,dM,aZ,aB];try omega),s.ext⟩
  try simp only [df] at h12
  refine .gG<|.gG<|.gy (.pickF Z Z)<|.yw (.pickF Z Z)<|.az Z<|?_
  exact y9 Z Z λW s=>⟨kN (by simp only [nG,aT,aC,aA,reduceCtorEq,cD,bZ,cH,bY,dM,aZ,aB];try omega),s.ext⟩
 refine .gG<|.gG<|.yw (.pickF Z Z)<|.mv Z<|.gy (.move Z)<|.gy (.geq Z Z)<|.gy (.move Z)<|.b2 (λh12=>?_) (λh12=>?_)
 ·try simp only [dt] at h12
  refine .gy (.move Z)<|.gy (.leq Z Z)<|.gy (.pickT Z Z)<|.yw (.pickF Z Z)<|.az Z<|?_
  exact y9 Z Z λW s=>⟨kN (by simp only [nG,aT,aC,aA,reduceCtorEq,cD,bZ,cH,bY,dM,aZ,aB];try omega),s.ext⟩
 try simp only [df] at h12
 refine .gG<|.gG<|.gy (.pickF Z Z)<|.yw (.pickF Z Z)<|.az Z<|?_
 exact y9 Z Z λW s=>⟨kN (by simp only [nG,aT,aC,aA,reduceCtorEq,cD,bZ,cH,bY,dM,aZ,aB];try omega),s.ext⟩
theorem AJ (c:UInt8) (w:World):Calls prg 125 #[ET c] w λr w'=>r=.returned (.bool (iC c))/\Ext w w':=by
 refine y6 func125 Z ntmps125 Z ?_;refine .sr<|.a Z Z<|.ns<|.mv Z<|.yw (.geq Z Z)<|.mv Z<|.e2 (λh5=>?_) (λh5=>?_)
 ·refine .gy (.move Z)<|.gy (.leq Z Z)<|.yw (.pickT Z Z)<|.az Z<|?_
  exact y9 Z Z λW s=>⟨kN (by simp only [iC,aT,aC,aA,reduceCtorEq,cD,bZ,cH,bY,dM,aZ,aB];try omega),s.ext⟩
 refine .gG<|.gG<|.yw (.pickF Z Z)<|.az Z<|?_
 exact y9 Z Z λW s=>⟨kN (by simp only [iC,aT,aC,aA,reduceCtorEq,cD,bZ,cH,bY,dM,aZ,aB];try omega),s.ext⟩
theorem aA6 (c:UInt8) (w:World):Calls prg 151 #[ET c] w λr w'=>r=.returned (.bool (iR c))/\Ext w w':=by
 refine y6 func151 Z ntmps151 Z ?_;refine .sr<|.a Z Z<|.ns<|.mv Z<|.yw (.call OC Z (λW s=>NA c W))<|.mv Z<|.b2 (λh5=>?_) (λh5=>?_)
 ·refine .gG<|.gG<|.yw (.pickT Z Z)<|.mv Z<|.gG<|.gG<|.yw (.pickT Z Z)<|.az Z<|?_
  exact y9 Z Z λW s=>⟨kN (by simp_all [iR];try omega),s.ext⟩
 refine .gy (.move Z)<|.gy (.call BI Z (λW s=>DM c W))<|.yw (.pickF Z Z)<|.mv Z<|.b2 (λh9=>?_) (λh9=>?_)
 ·refine .gG<|.gG<|.yw (.pickT Z Z)<|.az Z<|?_
  exact y9 Z Z λW s=>⟨kN (by simp_all [iR];try omega),s.ext⟩
 refine .gy (.move Z)<|.gy (.eql Z Z)<|.yw (.pickF Z Z)<|.az Z<|?_
 exact y9 Z Z λW s=>⟨kN (by simp_all [iR];try omega),s.ext⟩
theorem xN (gf:FuncId) (q:UInt8->Bool) (hf:cV prg gf=true) (hg:∀ b w,Calls prg gf #[ET b] w λr w'=>r=.returned (.bool (q b))/\Ext w w') (l:Str) (hl:l.length<=9223372036854775807) (w:World) :
 Calls prg 146 #[bV l,.func (.func gf) #[] #[]] w λr w'=>r=.returned (iN (pre q l))/\Ext w w':=by
 refine y6 func146 Z ntmps146 Z ?_;refine .sr<|.a Z Z<|.ns<|.aq Z<|.sq<|.bk<|.lp (X:=Nat) [(0,_),(1,_)] ⟨Z,Z,Jt⟩ [] (λk=>[(5,iN k)]) (λk=>(⟨λ_=>none,0⟩:Hp)) (λk=>[]) (λk=>k<=pre q l) (λk=>l.length - k) 0 (λ_ s=>s) ⟨Z,Jt⟩ (by omega) λk hC=>?_
 have hp:=uC q l;refine .sq<|.sm Z<|.mv Z<|.yw (.lenS dE Z)<|.yw (.lss Z Z)<|.mv Z<|.e2 (λh10=>?_) (λh10=>?_)
 ·have hk:k<l.length:=by omega
  refine .gy (.move Z)<|.gy (.move Z)<|.gy (.move Z)<|.gy (.idxS dE Z Z Z (List.getElem?_eq_getElem hk))<|.gy (.callV (fi:=[]) (ca:=[]) Z hf Z (λW s=>hg _ W))<|.yw (.pickT Z Z)<|.nt<|.cd Z (λh16=>?_) (λh16=>?_)
  ·exact .sk<|.tN<|.bk<|.rg<|.mv Z<|.yw (.add Z Z w7)<|.a Z Z<|.nl<|.bN<|.tN<|.ag (k+1) ⟨Z,Jt⟩ ⟨Z,Z,Jt⟩ (λ_ s=>s) (qT hk hC (by simpa using h16)) (by omega)
  refine .ex<|.eb<|.sm Z<|.az Z<|?_
  first
   | exact y9 Z Z λW s=>⟨by rw [show k=pre q l by omega],s.ext⟩
   | exact y9 Z Z λW s=>⟨by rw [xO hk hC (by simpa using h16)],s.ext⟩
 refine .gG<|.gG<|.gG<|.gG<|.gG<|.yw (.pickF Z Z)<|.nt<|.cF Z<|.ex<|.eb<|.sm Z<|.az Z<|?_
 first
  | exact y9 Z Z λW s=>⟨by rw [show k=pre q l by omega],s.ext⟩
  | exact y9 Z Z λW s=>⟨by rw [xO hk hC (by simpa using h16)],s.ext⟩
theorem XH (H:Hp) (G:Gl H) (l:Str) (w:World) (hA:Agr H w) :
 Calls prg 152 #[bV l] w λr w'=>r=.returned (.bool (words.contains l))/\Ext w w':=by
 refine Sx.enter (H:=H) func152 rfl ntmps152 rfl hA ?_;refine .sr<|.aq Z<|.sq<|.sr<|.yw (.loadMW Z aV8 G.words Z)<|.mv Z<|.nt<|.bk<|.lp (X:=Nat) [(0,_),(5,_)] ⟨Z,Z,Jt⟩ [] (λk=>[(6,iN k)]) (λk=>H) (λk=>[]) (λk=>k<=39/\∀ j,j<k->words.getD j []≠l) (λk=>39 - k) 0 (λ_ s=>s) ⟨Z,Jt⟩ ⟨by omega,λj hj=>by omega⟩ λk hC=>?_
 obtain ⟨hk,hne⟩:=hC;refine .sr<|.yw (.lss Z Z)<|.nt<|.sq<|.ce Z (λh7=>?_) (λh7=>?_)
 ·refine .sk<|.tN<|.sq<|.bk<|.sr<|.yw (.idxA aV1 aV5 Z Z Z (by omega) (uD (by show k<39;omega) []))<|.a Z Z<|.ns<|.mv Z<|.mv Z<|.yw (.eqS Z Z)<|.nt<|.ce Z (λh11=>?_) (λh11=>?_)
  ·have hmem:l∈words:=by
    rw [<-h11,AO (show k<words.length by show k<39;omega)];exact bI _
   refine .sr<|.az Z<|.bR<|.tR<|.tR<|.bR<|.tR<|?_
   exact y9 Z Z λW s=>⟨kN (by simp [fV, *]),s.ext⟩
  exact .sk<|.bN<|.tN<|.rg<|.yw (.add Z Z w7)<|.mv Z<|.nt<|.ag (k+1) ⟨Z,Jt⟩ ⟨Z,Z,Jt⟩ (λ_ s=>s) ⟨by omega,λj hj=>by
   by_cases e:j=k
   ·subst e;exact h11
   ·exact hne j (by omega)⟩ (by omega)
 have hno:l ∉ words:=λhm=>by
  obtain ⟨j,hj,e⟩:=oU.1 hm;have hj2:j<39:=hj;exact hne j (by omega) (by rw [AO hj];exact e)
 refine .ex<|.eb<|.sr<|.az Z<|?_
 exact y9 Z Z λW s=>⟨kN (by simp [fV, *]),s.ext⟩
theorem NF (l m:Str) (w:World):Calls prg 179 #[bV l,bV m] w λr w'=>r=.returned (.bool (yI l m))/\Ext w w':=by
 refine y6 func179 Z ntmps179 Z ?_;refine .sr<|.a Z Z<|.ns<|.mv Z<|.yw (.lenS dE Z)<|.mv Z<|.yw (.lenS dE Z)<|.yw (.geq Z Z)<|.mv Z<|.e2 (λh10=>?_) (λh10=>?_)
 ·refine .gy (.move Z)<|.gy (.move Z)<|.gy (.lenS dE Z)<|.gy (.takeS dE Z Z Z (by omega))<|.gy (.move Z)<|.gy (.eqS Z Z)<|.yw (.pickT Z Z)<|.az Z<|?_
  exact y9 Z Z λW s=>⟨kN (by first | (simp only [yI,aT,aC,aA,reduceCtorEq,cD,bZ,cH,bY,dM,aZ,aB];omega) | exact ⟨λe=>by simp only [yI,aT,aC,aA,reduceCtorEq,cD,bZ,cH,bY,dM,aZ,aB] at e|-;exact ⟨by omega,e⟩,λe=>by simp only [yI,aT,aC,aA,reduceCtorEq,cD,bZ,cH,bY,dM,aZ,aB] at e|-;exact e.2⟩),s.ext⟩
 refine .gG<|.gG<|.gG<|.gG<|.gG<|.gG<|.yw (.pickF Z Z)<|.az Z<|?_
 exact y9 Z Z λW s=>⟨kN (by first | (simp only [yI,aT,aC,aA,reduceCtorEq,cD,bZ,cH,bY,dM,aZ,aB];omega) | exact ⟨λe=>by simp only [yI,aT,aC,aA,reduceCtorEq,cD,bZ,cH,bY,dM,aZ,aB] at e|-;exact ⟨by omega,e⟩,λe=>by simp only [yI,aT,aC,aA,reduceCtorEq,cD,bZ,cH,bY,dM,aZ,aB] at e|-;exact e.2⟩),s.ext⟩
theorem ES (l m:Str) (w:World):Calls prg 148 #[bV l,bV m] w λr w'=>r=.returned (.bool (yI l m))/\Ext w w':=by
 refine y6 func148 Z ntmps148 Z ?_;refine .sr<|.a Z Z<|.ns<|.mv Z<|.mv Z<|.yw (.call aD2 Z (λW s=>NF l m W))<|.az Z<|?_
 exact y9 Z Z λW s=>⟨Z,s.ext⟩
theorem aV9:lR prg 217=some (some 25):=by kernel_rfl
theorem aV6:bK2 prg 217=true:=by kernel_rfl
theorem aV2:PG prg 217=some (25,1):=by kernel_rfl
theorem RQ:cV prg 97=true:=by kernel_rfl
theorem yD:cV prg 146=true:=by kernel_rfl
theorem OD:cV prg 148=true:=by kernel_rfl
theorem aD7:cV prg 151=true:=by kernel_rfl
theorem aD6:cV prg 152=true:=by kernel_rfl
variable {k:Nat}
theorem VZ {l:Str} (hk:k<25) (h0:∀ j,j<k->yI l (symbols.getD j [])=false) (h1:yI l (symbols.getD k [])=true):symbols.find? (λx=>x.isPrefixOf l)=some (symbols.getD k []):=by
 have hk':k<symbols.length:=hk;rw [AO hk'] at h1|-;rw [CN] at h1;refine List.find?_eq_some_iff_getElem.2 ⟨h1,k,hk',Z,λj hj=>?_⟩;have:=h0 j hj;rw [AO (by omega),CN] at this;simp [this]
theorem VY {l:Str} (h0:∀ j,j<25->yI l (symbols.getD j [])=false):symbols.find? (λx=>x.isPrefixOf l)=none:=by
 rw [List.find?_eq_none];intro x hx;obtain ⟨j,hj,rfl⟩:=oU.1 hx;have:=h0 j hj;rw [AO hj,CN] at this;simp [this]
theorem WI (H:Hp) (G:Gl H) (l:Str) (hl:l.length<=9223372036854775807) (h0:l≠[]) (w:World) (hA:Agr H w) :
 Calls prg 97 #[bV l] w λe w'=>e=.returned (.tuple #[.int .u8 ((bM l).1.toNat:Nat),iN ((bM l).2)])/\Ext w w':=by
 match l,h0 with
 | c::r,_ =>
 refine Sx.enter (H:=H) func97 rfl ntmps97 rfl hA ?_;refine .sr<|.a Z Z<|.aq Z<|.sq<|.sm Z<|.yw (.idxS dE Z Z Z (b:=c) (j:=0) Z)<|.aq Z<|.bk<|.sm Z<|.yw (.call OC Z (λW s=>NA c W))<|.aq Z<|.cd Z (λh21=>?_) (λh21=>?_)
 ·refine .sm Z<|.yw (.call yD Z (λW s=>xN 151 iR aD7 aA6 (c::r) hl W))<|.aq Z<|.sq<|.sm Z<|.mv Z<|.yw (.takeS dE Z Z Z (uC _ _))<|.yw (.call aD6 Z (λW s=>XH H G _ W s.agr))<|.nt<|.cd Z (λh29=>?_) (λh29=>?_)
  ·refine .sm Z<|.a Z Z<|.az Z<|.tR<|.bR<|.tR<|?_
   first
    | exact y7 Z (.cons (.tmp rfl) (.cons (.tmp rfl) .nil)) rfl λW s=>⟨by simp only [bM,aH,h21,h29,aU];rfl,s.ext⟩
    | exact y7 Z (.cons (.tmp rfl) (.cons (.tmp rfl) .nil)) rfl λW s=>⟨by simp only [bM,aH,h21,h29,aU,aB,aS,show pre iR (c::r)<=12 by omega];rfl,s.ext⟩
    | exact y7 Z (.cons (.tmp rfl) (.cons (.tmp rfl) .nil)) rfl λW s=>⟨by simp only [bM,aH,h21,h29,aU,aB,aS,show ¬ pre iR (c::r)<=12 by omega];rfl,s.ext⟩
    | exact y7 Z (.cons (.tmp rfl) (.cons (.tmp rfl) .nil)) rfl λW s=>⟨by simp only [bM,aH,h21,h34,aU,aB,aS,hor];rfl,s.ext⟩
    | exact y7 Z (.cons (.tmp rfl) (.cons (.tmp rfl) .nil)) rfl λW s=>⟨by simp only [bM,aH,h21,h34,aB,aS,hfind];rfl,s.ext⟩
  refine .sk<|.tN<|.sm Z<|.yw (.leq Z Z)<|.nt<|.ce Z (λh32=>?_) (λh32=>?_)
  ·refine .sm Z<|.a Z Z<|.az Z<|.bR<|.tR<|?_
   first
    | exact y7 Z (.cons (.tmp rfl) (.cons (.tmp rfl) .nil)) rfl λW s=>⟨by simp only [bM,aH,h21,h29,aU];rfl,s.ext⟩
    | exact y7 Z (.cons (.tmp rfl) (.cons (.tmp rfl) .nil)) rfl λW s=>⟨by simp only [bM,aH,h21,h29,aU,aB,aS,show pre iR (c::r)<=12 by omega];rfl,s.ext⟩
    | exact y7 Z (.cons (.tmp rfl) (.cons (.tmp rfl) .nil)) rfl λW s=>⟨by simp only [bM,aH,h21,h29,aU,aB,aS,show ¬ pre iR (c::r)<=12 by omega];rfl,s.ext⟩
    | exact y7 Z (.cons (.tmp rfl) (.cons (.tmp rfl) .nil)) rfl λW s=>⟨by simp only [bM,aH,h21,h34,aU,aB,aS,hor];rfl,s.ext⟩
    | exact y7 Z (.cons (.tmp rfl) (.cons (.tmp rfl) .nil)) rfl λW s=>⟨by simp only [bM,aH,h21,h34,aB,aS,hfind];rfl,s.ext⟩
  refine .sk<|.bN<|.tN<|.sm Z<|.yw (.lenS dE Z)<|.a Z Z<|.az Z<|?_
  first
   | exact y7 Z (.cons (.tmp rfl) (.cons (.tmp rfl) .nil)) rfl λW s=>⟨by simp only [bM,aH,h21,h29,aU];rfl,s.ext⟩
   | exact y7 Z (.cons (.tmp rfl) (.cons (.tmp rfl) .nil)) rfl λW s=>⟨by simp only [bM,aH,h21,h29,aU,aB,aS,show pre iR (c::r)<=12 by omega];rfl,s.ext⟩
   | exact y7 Z (.cons (.tmp rfl) (.cons (.tmp rfl) .nil)) rfl λW s=>⟨by simp only [bM,aH,h21,h29,aU,aB,aS,show ¬ pre iR (c::r)<=12 by omega];rfl,s.ext⟩
   | exact y7 Z (.cons (.tmp rfl) (.cons (.tmp rfl) .nil)) rfl λW s=>⟨by simp only [bM,aH,h21,h34,aU,aB,aS,hor];rfl,s.ext⟩
   | exact y7 Z (.cons (.tmp rfl) (.cons (.tmp rfl) .nil)) rfl λW s=>⟨by simp only [bM,aH,h21,h34,aB,aS,hfind];rfl,s.ext⟩
 refine .sm Z<|.yw (.call BI Z (λW s=>DM c W))<|.aq Z<|.cd Z (λh34=>?_) (λh34=>?_)
 ·refine .sm Z<|.yw (.call yD Z (λW s=>xN 153 iC BI DM (c::r) hl W))<|.a Z Z<|.ns<|.mv Z<|.yw (.eql Z Z)<|.mv Z<|.e2 (λh41=>?_) (λh41=>?_)
  ·have hor:(pre iC (c::r)=1\/c≠48)=True:=eq_true (.inl (by omega));refine .gG<|.gG<|.yw (.pickT Z Z)<|.nt<|.cT Z<|.sm Z<|.a Z Z<|.az Z<|.bR<|.tR<|?_
   first
    | exact y7 Z (.cons (.tmp rfl) (.cons (.tmp rfl) .nil)) rfl λW s=>⟨by simp only [bM,aH,h21,h29,aU];rfl,s.ext⟩
    | exact y7 Z (.cons (.tmp rfl) (.cons (.tmp rfl) .nil)) rfl λW s=>⟨by simp only [bM,aH,h21,h29,aU,aB,aS,show pre iR (c::r)<=12 by omega];rfl,s.ext⟩
    | exact y7 Z (.cons (.tmp rfl) (.cons (.tmp rfl) .nil)) rfl λW s=>⟨by simp only [bM,aH,h21,h29,aU,aB,aS,show ¬ pre iR (c::r)<=12 by omega];rfl,s.ext⟩
    | exact y7 Z (.cons (.tmp rfl) (.cons (.tmp rfl) .nil)) rfl λW s=>⟨by simp only [bM,aH,h21,h34,aU,aB,aS,hor];rfl,s.ext⟩
    | exact y7 Z (.cons (.tmp rfl) (.cons (.tmp rfl) .nil)) rfl λW s=>⟨by simp only [bM,aH,h21,h34,aB,aS,hfind];rfl,s.ext⟩
  refine .gy (.move Z)<|.gy (.neq Z Z)<|.yw (.pickF Z Z)<|.nt<|.ce Z (λh44=>?_) (λh44=>?_)
  ·have hor:(pre iC (c::r)=1\/c≠48)=True:=eq_true (.inr λe=>h44 (by rw [e];rfl));refine .sm Z<|.a Z Z<|.az Z<|.bR<|.tR<|?_
   first
    | exact y7 Z (.cons (.tmp rfl) (.cons (.tmp rfl) .nil)) rfl λW s=>⟨by simp only [bM,aH,h21,h29,aU];rfl,s.ext⟩
    | exact y7 Z (.cons (.tmp rfl) (.cons (.tmp rfl) .nil)) rfl λW s=>⟨by simp only [bM,aH,h21,h29,aU,aB,aS,show pre iR (c::r)<=12 by omega];rfl,s.ext⟩
    | exact y7 Z (.cons (.tmp rfl) (.cons (.tmp rfl) .nil)) rfl λW s=>⟨by simp only [bM,aH,h21,h29,aU,aB,aS,show ¬ pre iR (c::r)<=12 by omega];rfl,s.ext⟩
    | exact y7 Z (.cons (.tmp rfl) (.cons (.tmp rfl) .nil)) rfl λW s=>⟨by simp only [bM,aH,h21,h34,aU,aB,aS,hor];rfl,s.ext⟩
    | exact y7 Z (.cons (.tmp rfl) (.cons (.tmp rfl) .nil)) rfl λW s=>⟨by simp only [bM,aH,h21,h34,aB,aS,hfind];rfl,s.ext⟩
  have hor:(pre iC (c::r)=1\/c≠48)=False:=eq_false λh=>by
   rcases h with h | h
   ·omega
   ·exact h (aR.1 (by show c.toNat=48;simp at h44;omega))
  refine .sk<|.bN<|.tN<|.sm Z<|.yw (.lenS dE Z)<|.a Z Z<|.az Z<|?_
  first
   | exact y7 Z (.cons (.tmp rfl) (.cons (.tmp rfl) .nil)) rfl λW s=>⟨by simp only [bM,aH,h21,h29,aU];rfl,s.ext⟩
   | exact y7 Z (.cons (.tmp rfl) (.cons (.tmp rfl) .nil)) rfl λW s=>⟨by simp only [bM,aH,h21,h29,aU,aB,aS,show pre iR (c::r)<=12 by omega];rfl,s.ext⟩
   | exact y7 Z (.cons (.tmp rfl) (.cons (.tmp rfl) .nil)) rfl λW s=>⟨by simp only [bM,aH,h21,h29,aU,aB,aS,show ¬ pre iR (c::r)<=12 by omega];rfl,s.ext⟩
   | exact y7 Z (.cons (.tmp rfl) (.cons (.tmp rfl) .nil)) rfl λW s=>⟨by simp only [bM,aH,h21,h34,aU,aB,aS,hor];rfl,s.ext⟩
   | exact y7 Z (.cons (.tmp rfl) (.cons (.tmp rfl) .nil)) rfl λW s=>⟨by simp only [bM,aH,h21,h34,aB,aS,hfind];rfl,s.ext⟩
 refine .sr<|.yw (.loadMW Z aV9 G.symbols Z)<|.mv Z<|.nt<|.bk<|.lp (X:=Nat) [(0,_),(11,_)] ⟨Z,Z,Jt⟩ [] (λk=>[(12,iN k)]) (λk=>H) (λk=>[]) (λk=>k<=25/\∀ j,j<k->yI (c::r) (symbols.getD j [])=false) (λk=>25 - k) 0 (λ_ s=>s) ⟨Z,Jt⟩ ⟨by omega,λj hj=>by omega⟩ λk hC=>?_
 obtain ⟨hk,hne⟩:=hC;refine .sr<|.yw (.lss Z Z)<|.nt<|.sq<|.ce Z (λh13=>?_) (λh13=>?_)
 ·refine .sk<|.tN<|.sq<|.bk<|.sr<|.yw (.idxA aV2 aV6 Z Z Z (by omega) (uD (by show k<25;omega) []))<|.a Z Z<|.ns<|.mv Z<|.mv Z<|.yw (.call OD Z (λW s=>ES (c::r) _ W))<|.nt<|.cd Z (λh17=>?_) (λh17=>?_)
  ·have hfind:=VZ (by omega) hne h17;refine .sm Z<|.yw (.lenS dE Z)<|.a Z Z<|.az Z<|.bR<|.tR<|.tR<|.bR<|.bR<|.tR<|?_
   first
    | exact y7 Z (.cons (.tmp rfl) (.cons (.tmp rfl) .nil)) rfl λW s=>⟨by simp only [bM,aH,h21,h29,aU];rfl,s.ext⟩
    | exact y7 Z (.cons (.tmp rfl) (.cons (.tmp rfl) .nil)) rfl λW s=>⟨by simp only [bM,aH,h21,h29,aU,aB,aS,show pre iR (c::r)<=12 by omega];rfl,s.ext⟩
    | exact y7 Z (.cons (.tmp rfl) (.cons (.tmp rfl) .nil)) rfl λW s=>⟨by simp only [bM,aH,h21,h29,aU,aB,aS,show ¬ pre iR (c::r)<=12 by omega];rfl,s.ext⟩
    | exact y7 Z (.cons (.tmp rfl) (.cons (.tmp rfl) .nil)) rfl λW s=>⟨by simp only [bM,aH,h21,h34,aU,aB,aS,hor];rfl,s.ext⟩
    | exact y7 Z (.cons (.tmp rfl) (.cons (.tmp rfl) .nil)) rfl λW s=>⟨by simp only [bM,aH,h21,h34,aB,aS,hfind];rfl,s.ext⟩
  exact .sk<|.bN<|.tN<|.rg<|.yw (.add Z Z w7)<|.mv Z<|.nt<|.ag (k+1) ⟨Z,Jt⟩ ⟨Z,Z,Jt⟩ (λ_ s=>s) ⟨by omega,λj hj=>by
   by_cases e:j=k
   ·subst e;exact h17
   ·exact hne j (by omega)⟩ (by omega)
 have hfind:=VY (l:=c::r) (λj hj=>hne j (by omega));refine .ex<|.tE<|.tE<|.bE<|.bN<|.tN<|.sm Z<|.yw (.lenS dE Z)<|.a Z Z<|.az Z<|?_
 first
  | exact y7 Z (.cons (.tmp rfl) (.cons (.tmp rfl) .nil)) rfl λW s=>⟨by simp only [bM,aH,h21,h29,aU];rfl,s.ext⟩
  | exact y7 Z (.cons (.tmp rfl) (.cons (.tmp rfl) .nil)) rfl λW s=>⟨by simp only [bM,aH,h21,h29,aU,aB,aS,show pre iR (c::r)<=12 by omega];rfl,s.ext⟩
  | exact y7 Z (.cons (.tmp rfl) (.cons (.tmp rfl) .nil)) rfl λW s=>⟨by simp only [bM,aH,h21,h29,aU,aB,aS,show ¬ pre iR (c::r)<=12 by omega];rfl,s.ext⟩
  | exact y7 Z (.cons (.tmp rfl) (.cons (.tmp rfl) .nil)) rfl λW s=>⟨by simp only [bM,aH,h21,h34,aU,aB,aS,hor];rfl,s.ext⟩
  | exact y7 Z (.cons (.tmp rfl) (.cons (.tmp rfl) .nil)) rfl λW s=>⟨by simp only [bM,aH,h21,h34,aB,aS,hfind];rfl,s.ext⟩
theorem uV (H:Hp) (G:Gl H) (l:Str) (hl:l.length<=9223372036854775807) (w:World) (hA:Agr H w) :
 Calls prg 75 #[bV l] w λr w'=>r=.returned (.bool (fB l))/\Ext w w':=by
 refine Sx.enter (H:=H) func75 rfl ntmps75 rfl hA ?_;refine .sr<|.aq Z<|.sq<|.sm Z<|.yw (.eqS Z Z)<|.nt<|.ce Z (λh6=>?_) (λh6=>?_)
 ·subst h6;refine .sr<|.az Z<|.tR<|?_
  refine y9 Z Z λW s=>⟨kN ?_,s.ext⟩
  first
   | (rw [fB,show (bM l).1=1 from h1];simp [h6];omega)
   | (rw [show fB l=false by simp [fB,h1]])
   | (rfl)
 refine .sk<|.tN<|.sm Z<|.yw (.call RQ Z (λW s=>WI H G l hl h6 W s.agr))<|.mv Z<|.yw (.extract Z Z)<|.yw (.extract Z Z)<|.a Z Z<|.a Z Z<|.ns<|.mv Z<|.yw (.eql Z Z)<|.mv Z<|.e2 (λh14=>?_) (λh14=>?_)
 ·have h1:(bM l).1=1:=aR.1 (by show _=1;omega);refine .gy (.move Z)<|.gy (.move Z)<|.gy (.lenS dE Z)<|.gy (.eql Z Z)<|.yw (.pickT Z Z)<|.az Z<|?_
  refine y9 Z Z λW s=>⟨kN ?_,s.ext⟩
  first
   | (rw [fB,show (bM l).1=1 from h1];simp [h6];omega)
   | (rw [show fB l=false by simp [fB,h1]])
   | (rfl)
 have h1:¬ (bM l).1=1:=λe=>h14 (by rw [e];rfl);refine .gG<|.gG<|.gG<|.gG<|.yw (.pickF Z Z)<|.az Z<|?_
 refine y9 Z Z λW s=>⟨kN ?_,s.ext⟩
 first
  | (rw [fB,show (bM l).1=1 from h1];simp [h6];omega)
  | (rw [show fB l=false by simp [fB,h1]])
  | (rfl)
theorem cP:lR prg 9=some none:=by kernel_rfl
theorem uG:slN prg 71=some 1:=by kernel_rfl
theorem YV (x0 x1 x2 x3 x4 x5 x6 x7 x8 x9 x10:ByteArray):uO prg 71 11 [(0,.string x0),(1,.string x1),(2,.string x2),(3,.string x3),(4,.string x4),(5,.string x5),(6,.string x6),(7,.string x7),(8,.string x8),(9,.string x9),(10,.string x10)]=some (9,[.string x0,.string x1,.string x2,.string x3,.string x4,.string x5,.string x6,.string x7,.string x8,.string x9,.string x10]):=by kernel_rfl
theorem kM:lR prg 2=some none:=by kernel_rfl
theorem bS:lR prg 3=some none:=by kernel_rfl
theorem SF:cV prg 39=true:=by kernel_rfl
theorem eH:eN prg 83 0=some 0:=by kernel_rfl
theorem nL:eN prg 83 1=some 1:=by kernel_rfl
theorem pK:eN prg 83 2=some 2:=by kernel_rfl
theorem rU:UF prg 3=some Go.IntKind.i64:=by kernel_rfl
theorem YR:UF prg 74=some Go.IntKind.u8:=by kernel_rfl
theorem vY:AH prg 32=some (76,4,56):=by kernel_rfl
theorem nE:iP prg 32=some 1:=by kernel_rfl
theorem gM:iP prg 76=some 4:=by kernel_rfl
theorem kS:qK prg 76=some
 [Go.Value.int Go.IntKind.u8 (Int.ofNat 0),Go.Value.string { data:={ toList:=[] } },
  Go.Value.int Go.IntKind.i64 (Int.ofNat 0),Go.Value.slice none 0 0]:=by kernel_rfl
theorem OV (x0:Int) (x1:ByteArray) (x2:Int):fK prg 76 [(0,.int .u8 x0),(1,.string x1),(2,.int .i64 x2)]=some [.int .u8 x0,.string x1,.int .i64 x2,.slice none 0 0]:=by kernel_rfl
theorem nY (x00 x01 x02 x03:Value):uO prg 32 1 [(0,.agg [x00,x01,x02,x03].toArray)]=some (76,[x00,x01,x02,x03]):=by kernel_rfl
theorem kB:lR prg 4=some none:=by kernel_rfl
theorem ED:lR prg 5=some none:=by kernel_rfl
theorem aD3:cV prg 170=true:=by kernel_rfl
theorem rT:UF prg 5=some Go.IntKind.u8:=by kernel_rfl
theorem YQ:AH prg 24=some (83,4,56):=by kernel_rfl
theorem YN:iP prg 9=some 1:=by kernel_rfl
theorem JN:iP prg 24=some 1:=by kernel_rfl
theorem aF1 (x0:Int):fK prg 83 [(0,.int .i64 x0)]=some [.int .i64 x0,.string ⟨#[]⟩,.int .i64 0,.slice none 0 0]:=by kernel_rfl
theorem II (x0 x2:Int):fK prg 83 [(0,.int .i64 x0),(2,.int .i64 x2)]=some [.int .i64 x0,.string ⟨#[]⟩,.int .i64 x2,.slice none 0 0]:=by kernel_rfl
theorem tF (x00 x01 x02 x03:Value):uO prg 24 1 [(0,.agg [x00,x01,x02,x03].toArray)]=some (83,[x00,x01,x02,x03]):=by kernel_rfl
theorem YU (x0 x1 x2 x3 x4 x5 x6 x7 x8 x9 x10 x11 x12 x13 x14 x15 x16 x17 x18 x19 x20 x21 x22 x23 x24:ByteArray):uO prg 71 25 [(0,.string x0),(1,.string x1),(2,.string x2),(3,.string x3),(4,.string x4),(5,.string x5),(6,.string x6),(7,.string x7),(8,.string x8),(9,.string x9),(10,.string x10),(11,.string x11),(12,.string x12),(13,.string x13),(14,.string x14),(15,.string x15),(16,.string x16),(17,.string x17),(18,.string x18),(19,.string x19),(20,.string x20),(21,.string x21),(22,.string x22),(23,.string x23),(24,.string x24)]=some (9,[.string x0,.string x1,.string x2,.string x3,.string x4,.string x5,.string x6,.string x7,.string x8,.string x9,.string x10,.string x11,.string x12,.string x13,.string x14,.string x15,.string x16,.string x17,.string x18,.string x19,.string x20,.string x21,.string x22,.string x23,.string x24]):=by kernel_rfl
theorem YT (x0 x1 x2 x3 x4 x5 x6 x7 x8 x9 x10 x11 x12 x13 x14 x15 x16 x17 x18 x19 x20 x21 x22 x23 x24 x25 x26 x27 x28 x29 x30 x31 x32 x33 x34 x35 x36 x37 x38:ByteArray):uO prg 71 39 [(0,.string x0),(1,.string x1),(2,.string x2),(3,.string x3),(4,.string x4),(5,.string x5),(6,.string x6),(7,.string x7),(8,.string x8),(9,.string x9),(10,.string x10),(11,.string x11),(12,.string x12),(13,.string x13),(14,.string x14),(15,.string x15),(16,.string x16),(17,.string x17),(18,.string x18),(19,.string x19),(20,.string x20),(21,.string x21),(22,.string x22),(23,.string x23),(24,.string x24),(25,.string x25),(26,.string x26),(27,.string x27),(28,.string x28),(29,.string x29),(30,.string x30),(31,.string x31),(32,.string x32),(33,.string x33),(34,.string x34),(35,.string x35),(36,.string x36),(37,.string x37),(38,.string x38)]=some (9,[.string x0,.string x1,.string x2,.string x3,.string x4,.string x5,.string x6,.string x7,.string x8,.string x9,.string x10,.string x11,.string x12,.string x13,.string x14,.string x15,.string x16,.string x17,.string x18,.string x19,.string x20,.string x21,.string x22,.string x23,.string x24,.string x25,.string x26,.string x27,.string x28,.string x29,.string x30,.string x31,.string x32,.string x33,.string x34,.string x35,.string x36,.string x37,.string x38]):=by kernel_rfl
theorem oR:lR prg 70=some (some 3):=by kernel_rfl
theorem OG:cV prg 124=true:=by kernel_rfl
theorem BK:cV prg 125=true:=by kernel_rfl
theorem aE4:cV prg 126=true:=by kernel_rfl
theorem aE3:cV prg 127=true:=by kernel_rfl
theorem lT:iP prg 70=some 3:=by kernel_rfl
theorem vB:qK prg 70=some
 [Go.Value.int Go.IntKind.i64 (Int.ofNat 0),Go.Value.string { data:={ toList:=[] } },
  Go.Value.int Go.IntKind.i64 (Int.ofNat 0)]:=by kernel_rfl
theorem lO (x0:Int) (x1:ByteArray) (x2:Int):fK prg 70 [(0,.int .i64 x0),(1,.string x1),(2,.int .i64 x2)]=some [.int .i64 x0,.string x1,.int .i64 x2]:=by kernel_rfl
theorem SG:cV prg 32=true:=by kernel_rfl
theorem EA:cV prg 67=true:=by kernel_rfl
theorem SA:cV prg 68=true:=by kernel_rfl
theorem rV:eN prg 70 0=some 0:=by kernel_rfl
theorem lC:eN prg 70 1=some 1:=by kernel_rfl
theorem NY:AH prg 67=some (70,3,32):=by kernel_rfl
theorem LN:slN prg 67=some 3:=by kernel_rfl
theorem GF (x00 x01 x02:Value):uO prg 67 1 [(0,.agg [x00,x01,x02].toArray)]=some (70,[x00,x01,x02]):=by kernel_rfl
theorem vD:cV prg 83=true:=by kernel_rfl
theorem bL0:AH prg 71=some (9,1,16):=by kernel_rfl
theorem aE9 (x0:ByteArray):uO prg 71 1 [(0,.string x0)]=some (9,[.string x0]):=by kernel_rfl
theorem BL (x0:Int) (x1:ByteArray):fK prg 83 [(0,.int .i64 x0),(1,.string x1)]=some [.int .i64 x0,.string x1,.int .i64 0,.slice none 0 0]:=by kernel_rfl
theorem OT (x0:Int) (x1:ByteArray) (x3p:Option Addr) (x3n x3c:Nat):fK prg 83 [(0,.int .i64 x0),(1,.string x1),(3,.slice x3p x3n x3c)]=some [.int .i64 x0,.string x1,.int .i64 0,.slice x3p x3n x3c]:=by kernel_rfl
theorem wW (x0:Int) (x3p:Option Addr) (x3n x3c:Nat):fK prg 83 [(0,.int .i64 x0),(3,.slice x3p x3n x3c)]=some [.int .i64 x0,.string ⟨#[]⟩,.int .i64 0,.slice x3p x3n x3c]:=by kernel_rfl
theorem GG (x00 x01 x02 x03 x10 x11 x12 x13:Value):uO prg 24 2 [(0,.agg [x00,x01,x02,x03].toArray),(1,.agg [x10,x11,x12,x13].toArray)]=some (83,[x00,x01,x02,x03,x10,x11,x12,x13]):=by kernel_rfl
theorem ON (x0 x1 x2:ByteArray):uO prg 71 3 [(0,.string x0),(1,.string x1),(2,.string x2)]=some (9,[.string x0,.string x1,.string x2]):=by kernel_rfl
theorem iG:iP prg 3=some 1:=by kernel_rfl
theorem kR:lR prg 74=some none:=by kernel_rfl
theorem zY:cV prg 51=true:=by kernel_rfl
theorem zX:cV prg 52=true:=by kernel_rfl
theorem hU:eN prg 76 0=some 0:=by kernel_rfl
theorem fZ:eN prg 76 1=some 1:=by kernel_rfl
theorem gQ:eN prg 76 2=some 2:=by kernel_rfl
theorem rL:lR prg 29=some none:=by kernel_rfl
theorem IK:lR prg 99=some none:=by kernel_rfl
theorem oS:lR prg 106=some none:=by kernel_rfl
theorem JW:lR prg 108=some (some 3):=by kernel_rfl
theorem tP:cV prg 98=true:=by kernel_rfl
theorem qD:eN prg 102 0=some 0:=by kernel_rfl
theorem iE:eN prg 102 1=some 1:=by kernel_rfl
theorem sO:eN prg 102 7=some 7:=by kernel_rfl
theorem jM:eN prg 102 8=some 8:=by kernel_rfl
theorem jY:eN prg 108 0=some 0:=by kernel_rfl
theorem lH:eN prg 108 1=some 1:=by kernel_rfl
theorem aS3:iP prg 29=some 1:=by kernel_rfl
theorem yB:iP prg 108=some 3:=by kernel_rfl
theorem aL3:slN prg 99=some 3:=by kernel_rfl
theorem xZ:qK prg 108=some
 [Go.Value.int Go.IntKind.u8 (Int.ofNat 0),Go.Value.string { data:={ toList:=[] } },
  Go.Value.int Go.IntKind.i64 (Int.ofNat 0)]:=by kernel_rfl
theorem kI:cV prg 100=true:=by kernel_rfl
theorem jG:cV prg 104=true:=by kernel_rfl
theorem dI:cV prg 107=true:=by kernel_rfl
theorem cL:lR prg 35=some (some 7):=by kernel_rfl
theorem tD:cV prg 110=true:=by kernel_rfl
theorem tC:cV prg 113=true:=by kernel_rfl
theorem nX:cV prg 114=true:=by kernel_rfl
theorem aD5:cV prg 158=true:=by kernel_rfl
theorem OB:cV prg 180=true:=by kernel_rfl
theorem gA:eN prg 35 2=some 2:=by kernel_rfl
theorem fI:eN prg 35 3=some 3:=by kernel_rfl
theorem eW:eN prg 35 4=some 4:=by kernel_rfl
theorem aL4:UF prg 2=some Go.IntKind.i64:=by kernel_rfl
theorem dC:iP prg 35=some 7:=by kernel_rfl
theorem eS:qK prg 35=some
 [Go.Value.int Go.IntKind.u8 (Int.ofNat 0),Go.Value.string { data:={ toList:=[] } },
  Go.Value.string { data:={ toList:=[] } },Go.Value.int Go.IntKind.i64 (Int.ofNat 0),
  Go.Value.int Go.IntKind.i64 (Int.ofNat 0),Go.Value.slice none 0 0,Go.Value.slice none 0 0]:=by kernel_rfl
theorem wY (x0:Int) (x1:ByteArray):fK prg 35 [(0,.int .u8 x0),(1,.string x1)]=some [.int .u8 x0,.string x1,.string ⟨#[]⟩,.int .i64 0,.int .i64 0,.slice none 0 0,.slice none 0 0]:=by kernel_rfl
theorem VD (x0 x4:Int):fK prg 35 [(0,.int .u8 x0),(4,.int .i64 x4)]=some [.int .u8 x0,.string ⟨#[]⟩,.string ⟨#[]⟩,.int .i64 0,.int .i64 x4,.slice none 0 0,.slice none 0 0]:=by kernel_rfl
theorem AA:lR prg 97=some (some 11):=by kernel_rfl
theorem vZ:lR prg 98=some none:=by kernel_rfl
theorem qF:lR prg 100=some none:=by kernel_rfl
theorem xG:lR prg 179=some (some 13):=by kernel_rfl
theorem mS:cV prg 105=true:=by kernel_rfl
theorem pJ:eN prg 97 1=some 1:=by kernel_rfl
theorem uJ:eN prg 97 2=some 2:=by kernel_rfl
theorem jO:eN prg 102 2=some 2:=by kernel_rfl
theorem jN:eN prg 102 3=some 3:=by kernel_rfl
theorem mJ:eN prg 102 4=some 4:=by kernel_rfl
theorem YP:AH prg 98=some (97,11,128):=by kernel_rfl
theorem aS4:AH prg 100=some (179,13,168):=by kernel_rfl
theorem lZ:iP prg 4=some 1:=by kernel_rfl
theorem DU:iP prg 98=some 1:=by kernel_rfl
theorem NX:iP prg 100=some 1:=by kernel_rfl
theorem yA:iP prg 179=some 13:=by kernel_rfl
theorem DT:slN prg 98=some 11:=by kernel_rfl
theorem uI:slN prg 100=some 13:=by kernel_rfl
theorem xY:qK prg 179=some
 [Go.Value.bool false,Go.Value.bool false,Go.Value.int Go.IntKind.u8 (Int.ofNat 0),
  Go.Value.string { data:={ toList:=[] } },Go.Value.int Go.IntKind.i64 (Int.ofNat 0),
  Go.Value.slice none 0 0,Go.Value.int Go.IntKind.u8 (Int.ofNat 0),
  Go.Value.string { data:={ toList:=[] } },Go.Value.string { data:={ toList:=[] } },
  Go.Value.int Go.IntKind.i64 (Int.ofNat 0),Go.Value.int Go.IntKind.i64 (Int.ofNat 0),
  Go.Value.slice none 0 0,Go.Value.slice none 0 0]:=by kernel_rfl
theorem YW (x00 x01 x02 x03 x04 x05 x06 x07 x08 x09 x010 x011 x012:Value):uO prg 100 1 [(0,.agg [x00,x01,x02,x03,x04,x05,x06,x07,x08,x09,x010,x011,x012].toArray)]=some (179,[x00,x01,x02,x03,x04,x05,x06,x07,x08,x09,x010,x011,x012]):=by kernel_rfl
theorem GE (x00 x01 x02 x03 x04 x05 x06 x07 x08 x09 x010:Value):uO prg 98 1 [(0,.agg [x00,x01,x02,x03,x04,x05,x06,x07,x08,x09,x010].toArray)]=some (97,[x00,x01,x02,x03,x04,x05,x06,x07,x08,x09,x010]):=by kernel_rfl
theorem SI:cV prg 20=true:=by kernel_rfl
theorem aT7:cV prg 49=true:=by kernel_rfl
theorem aS7:cV prg 94=true:=by kernel_rfl
theorem fX:cV prg 108=true:=by kernel_rfl
theorem GD:cV prg 116=true:=by kernel_rfl
theorem aE0:cV prg 145=true:=by kernel_rfl
theorem nU:eN prg 102 6=some 6:=by kernel_rfl
theorem EW:eN prg 179 0=some 0:=by kernel_rfl
theorem vO:eN prg 179 2=some 2:=by kernel_rfl
theorem PH:eN prg 179 3=some 6:=by kernel_rfl
theorem yH (x0:Int) (x1 x2:ByteArray):fK prg 35 [(0,.int .u8 x0),(1,.string x1),(2,.string x2)]=some [.int .u8 x0,.string x1,.string x2,.int .i64 0,.int .i64 0,.slice none 0 0,.slice none 0 0]:=by kernel_rfl
theorem mT:lR prg 95=some none:=by kernel_rfl
theorem xF:cV prg 57=true:=by kernel_rfl
theorem nW:cV prg 155=true:=by kernel_rfl
theorem dF:eN prg 35 6=some 6:=by kernel_rfl
theorem hO:eN prg 97 0=some 0:=by kernel_rfl
theorem BG:eN prg 97 3=some 3:=by kernel_rfl
theorem dL:eN prg 97 4=some 4:=by kernel_rfl
theorem DV:iP prg 33=some 1:=by kernel_rfl
theorem RP:iP prg 97=some 11:=by kernel_rfl
theorem RN:qK prg 97=some
 [Go.Value.int Go.IntKind.u8 (Int.ofNat 0),Go.Value.int Go.IntKind.i64 (Int.ofNat 0),Go.Value.bool false,
  Go.Value.int Go.IntKind.u8 (Int.ofNat 0),Go.Value.int Go.IntKind.u8 (Int.ofNat 0),
  Go.Value.string { data:={ toList:=[] } },Go.Value.string { data:={ toList:=[] } },
  Go.Value.int Go.IntKind.i64 (Int.ofNat 0),Go.Value.int Go.IntKind.i64 (Int.ofNat 0),
  Go.Value.slice none 0 0,Go.Value.slice none 0 0]:=by kernel_rfl
theorem kA (x0:Bool) (x20 x21 x22 x23:Value):fK prg 179 [(0,.bool x0),(2,.agg [x20,x21,x22,x23].toArray)]=some [.bool x0,.bool false,x20,x21,x22,x23,.int .u8 0,.string ⟨#[]⟩,.string ⟨#[]⟩,.int .i64 0,.int .i64 0,.slice none 0 0,.slice none 0 0]:=by kernel_rfl
theorem jH (x30 x31 x32 x33 x34 x35 x36:Value):fK prg 179 [(3,.agg [x30,x31,x32,x33,x34,x35,x36].toArray)]=some [.bool false,.bool false,.int .u8 0,.string ⟨#[]⟩,.int .i64 0,.slice none 0 0,x30,x31,x32,x33,x34,x35,x36]:=by kernel_rfl
theorem VC (x0:Int) (x5p:Option Addr) (x5n x5c:Nat):fK prg 35 [(0,.int .u8 x0),(5,.slice x5p x5n x5c)]=some [.int .u8 x0,.string ⟨#[]⟩,.string ⟨#[]⟩,.int .i64 0,.int .i64 0,.slice x5p x5n x5c,.slice none 0 0]:=by kernel_rfl
theorem BM (x0:Int) (x3p:Option Addr) (x3n x3c:Nat):fK prg 76 [(0,.int .u8 x0),(3,.slice x3p x3n x3c)]=some [.int .u8 x0,.string ⟨#[]⟩,.int .i64 0,.slice x3p x3n x3c]:=by kernel_rfl
theorem OP (x00 x01 x02 x03 x10 x11 x12 x13:Value):uO prg 32 2 [(0,.agg [x00,x01,x02,x03].toArray),(1,.agg [x10,x11,x12,x13].toArray)]=some (76,[x00,x01,x02,x03,x10,x11,x12,x13]):=by kernel_rfl
theorem rK (x00 x01 x02 x03 x04 x05 x06:Value):uO prg 33 1 [(0,.agg [x00,x01,x02,x03,x04,x05,x06].toArray)]=some (35,[x00,x01,x02,x03,x04,x05,x06]):=by kernel_rfl
theorem aF0 (x00 x01 x02 x03 x04 x05 x06 x10 x11 x12 x13 x14 x15 x16:Value):uO prg 33 2 [(0,.agg [x00,x01,x02,x03,x04,x05,x06].toArray),(1,.agg [x10,x11,x12,x13,x14,x15,x16].toArray)]=some (35,[x00,x01,x02,x03,x04,x05,x06,x10,x11,x12,x13,x14,x15,x16]):=by kernel_rfl
theorem gI:cV prg 109=true:=by kernel_rfl
theorem yE:cV prg 112=true:=by kernel_rfl
theorem GB:cV prg 154=true:=by kernel_rfl
theorem GA:cV prg 157=true:=by kernel_rfl
theorem pP (x0:Int):fK prg 35 [(0,.int .u8 x0)]=some [.int .u8 x0,.string ⟨#[]⟩,.string ⟨#[]⟩,.int .i64 0,.int .i64 0,.slice none 0 0,.slice none 0 0]:=by kernel_rfl
theorem aF3 (x1:ByteArray):fK prg 35 [(1,.string x1)]=some [.int .u8 0,.string x1,.string ⟨#[]⟩,.int .i64 0,.int .i64 0,.slice none 0 0,.slice none 0 0]:=by kernel_rfl
theorem wX (x0:Int) (x1:ByteArray):fK prg 76 [(0,.int .u8 x0),(1,.string x1)]=some [.int .u8 x0,.string x1,.int .i64 0,.slice none 0 0]:=by kernel_rfl
theorem jZ (x0 x1:Int) (x40 x41 x42 x43 x44 x45 x46:Value):fK prg 97 [(0,.int .u8 x0),(1,.int .i64 x1),(4,.agg [x40,x41,x42,x43,x44,x45,x46].toArray)]=some [.int .u8 x0,.int .i64 x1,.bool false,.int .u8 0,x40,x41,x42,x43,x44,x45,x46]:=by kernel_rfl
theorem JR (x0:Int) (x2:Bool) (x3:Int) (x40 x41 x42 x43 x44 x45 x46:Value):fK prg 97 [(0,.int .u8 x0),(2,.bool x2),(3,.int .u8 x3),(4,.agg [x40,x41,x42,x43,x44,x45,x46].toArray)]=some [.int .u8 x0,.int .i64 0,.bool x2,.int .u8 x3,x40,x41,x42,x43,x44,x45,x46]:=by kernel_rfl
theorem yG (x0:Int) (x2:Bool) (x40 x41 x42 x43 x44 x45 x46:Value):fK prg 97 [(0,.int .u8 x0),(2,.bool x2),(4,.agg [x40,x41,x42,x43,x44,x45,x46].toArray)]=some [.int .u8 x0,.int .i64 0,.bool x2,.int .u8 0,x40,x41,x42,x43,x44,x45,x46]:=by kernel_rfl
theorem VB (x0:Int) (x40 x41 x42 x43 x44 x45 x46:Value):fK prg 97 [(0,.int .u8 x0),(4,.agg [x40,x41,x42,x43,x44,x45,x46].toArray)]=some [.int .u8 x0,.int .i64 0,.bool false,.int .u8 0,x40,x41,x42,x43,x44,x45,x46]:=by kernel_rfl
theorem aE6:cV prg 106=true:=by kernel_rfl
theorem OI:cV prg 111=true:=by kernel_rfl
theorem OH:cV prg 115=true:=by kernel_rfl
theorem gC:eN prg 35 1=some 1:=by kernel_rfl
theorem FC (x0 x1:Bool):fK prg 179 [(0,.bool x0),(1,.bool x1)]=some [.bool x0,.bool x1,.int .u8 0,.string ⟨#[]⟩,.int .i64 0,.slice none 0 0,.int .u8 0,.string ⟨#[]⟩,.string ⟨#[]⟩,.int .i64 0,.int .i64 0,.slice none 0 0,.slice none 0 0]:=by kernel_rfl
theorem OW (x0:Int):fK prg 76 [(0,.int .u8 x0)]=some [.int .u8 x0,.string ⟨#[]⟩,.int .i64 0,.slice none 0 0]:=by kernel_rfl
theorem BN (x0 x2:Int):fK prg 76 [(0,.int .u8 x0),(2,.int .i64 x2)]=some [.int .u8 x0,.string ⟨#[]⟩,.int .i64 x2,.slice none 0 0]:=by kernel_rfl
theorem GH (x0:Int):fK prg 97 [(0,.int .u8 x0)]=some [.int .u8 x0,.int .i64 0,.bool false,.int .u8 0,.int .u8 0,.string ⟨#[]⟩,.string ⟨#[]⟩,.int .i64 0,.int .i64 0,.slice none 0 0,.slice none 0 0]:=by kernel_rfl
theorem IH (x0 x1:Int):fK prg 97 [(0,.int .u8 x0),(1,.int .i64 x1)]=some [.int .u8 x0,.int .i64 x1,.bool false,.int .u8 0,.int .u8 0,.string ⟨#[]⟩,.string ⟨#[]⟩,.int .i64 0,.int .i64 0,.slice none 0 0,.slice none 0 0]:=by kernel_rfl
theorem JV:lR prg 157=some (some 7):=by kernel_rfl
theorem aV3:PG prg 200=some (19,7):=by kernel_rfl
theorem pO:cV prg 102=true:=by kernel_rfl
theorem vP:eN prg 179 1=some 1:=by kernel_rfl
theorem aS1:iP prg 95=some 1:=by kernel_rfl
theorem BF:iP prg 157=some 7:=by kernel_rfl
theorem FV:qK prg 157=some
 [Go.Value.int Go.IntKind.u8 (Int.ofNat 0),Go.Value.bool false,Go.Value.bool false,
  Go.Value.bool false,Go.Value.bool false,Go.Value.int Go.IntKind.u8 (Int.ofNat 0),
  Go.Value.int Go.IntKind.u8 (Int.ofNat 0)]:=by kernel_rfl
theorem aV0  : fK prg 157 []=some [.int .u8 0,.bool false,.bool false,.bool false,.bool false,.int .u8 0,.int .u8 0]:=by kernel_rfl
theorem OS (x0 x1 x3:Int):fK prg 97 [(0,.int .u8 x0),(1,.int .i64 x1),(3,.int .u8 x3)]=some [.int .u8 x0,.int .i64 x1,.bool false,.int .u8 x3,.int .u8 0,.string ⟨#[]⟩,.string ⟨#[]⟩,.int .i64 0,.int .i64 0,.slice none 0 0,.slice none 0 0]:=by kernel_rfl
theorem iT:lR prg 31=some none:=by kernel_rfl
theorem rW:cV prg 74=true:=by kernel_rfl
theorem eP:eN prg 35 0=some 0:=by kernel_rfl
theorem rI:cV prg 156=true:=by kernel_rfl
theorem cQ:eN prg 35 5=some 5:=by kernel_rfl
theorem FA:eN prg 102 5=some 5:=by kernel_rfl
theorem PP (x1:Bool) (x30 x31 x32 x33 x34 x35 x36:Value):fK prg 179 [(1,.bool x1),(3,.agg [x30,x31,x32,x33,x34,x35,x36].toArray)]=some [.bool false,.bool x1,.int .u8 0,.string ⟨#[]⟩,.int .i64 0,.slice none 0 0,x30,x31,x32,x33,x34,x35,x36]:=by kernel_rfl
theorem OU (x0:Int) (x1:ByteArray) (x3p:Option Addr) (x3n x3c:Nat):fK prg 76 [(0,.int .u8 x0),(1,.string x1),(3,.slice x3p x3n x3c)]=some [.int .u8 x0,.string x1,.int .i64 0,.slice x3p x3n x3c]:=by kernel_rfl
theorem aW0:lR prg 165=some (some 22):=by kernel_rfl
theorem aV7:bK2 prg 165=true:=by kernel_rfl
theorem JU:PG prg 165=some (22,1):=by kernel_rfl
theorem aS5:cV prg 99=true:=by kernel_rfl
theorem OL:cV prg 101=true:=by kernel_rfl
theorem OJ:cV prg 103=true:=by kernel_rfl
theorem aE2:cV prg 131=true:=by kernel_rfl
theorem aT1:cV prg 78=true:=by kernel_rfl
theorem DZ:cV prg 79=true:=by kernel_rfl
theorem rJ:cV prg 132=true:=by kernel_rfl
theorem fY:lR prg 33=some none:=by kernel_rfl
theorem EC:cV prg 35=true:=by kernel_rfl
theorem rY:cV prg 71=true:=by kernel_rfl
theorem RZ:cV prg 72=true:=by kernel_rfl
theorem xE:cV prg 75=true:=by kernel_rfl
theorem xD:cV prg 76=true:=by kernel_rfl
theorem EX:eN prg 157 1=some 1:=by kernel_rfl
theorem vR:eN prg 157 2=some 2:=by kernel_rfl
theorem eY:slN prg 33=some 7:=by kernel_rfl
theorem bK9:qK prg 3=some [Go.Value.int Go.IntKind.i64 (Int.ofNat 0)]:=by kernel_rfl
theorem aT2:cV prg 77=true:=by kernel_rfl
theorem aT0:cV prg 80=true:=by kernel_rfl
theorem PL:eN prg 157 0=some 0:=by kernel_rfl
theorem PK:eN prg 157 3=some 3:=by kernel_rfl
theorem PJ:eN prg 157 4=some 4:=by kernel_rfl
theorem PI:eN prg 157 5=some 5:=by kernel_rfl
theorem vQ:eN prg 157 6=some 6:=by kernel_rfl
theorem sN:AH prg 33=some (35,7,104):=by kernel_rfl
theorem aU1:cV prg 34=true:=by kernel_rfl
theorem aU0:cV prg 36=true:=by kernel_rfl
theorem aT9:cV prg 37=true:=by kernel_rfl
theorem aT8:cV prg 38=true:=by kernel_rfl
theorem RR:cV prg 96=true:=by kernel_rfl
theorem aD9:cV prg 147=true:=by kernel_rfl
theorem aD8:cV prg 149=true:=by kernel_rfl
theorem KQ (x0:Int) (x1:ByteArray) (x2:Int):fK prg 108 [(0,.int .u8 x0),(1,.string x1),(2,.int .i64 x2)]=some [.int .u8 x0,.string x1,.int .i64 x2]:=by kernel_rfl
theorem iS:lR prg 94=some none:=by kernel_rfl
theorem JQ:cV prg 15=true:=by kernel_rfl
theorem aT6:cV prg 54=true:=by kernel_rfl
theorem aT5:cV prg 55=true:=by kernel_rfl
theorem aT4:cV prg 56=true:=by kernel_rfl
theorem aS6:cV prg 95=true:=by kernel_rfl
theorem YO:AH prg 99=some (108,3,32):=by kernel_rfl
theorem aS2:iP prg 94=some 1:=by kernel_rfl
theorem RO:iP prg 99=some 1:=by kernel_rfl
theorem aS0:qK prg 94=some [Go.Value.pointer none]:=by kernel_rfl
theorem YZ (x2p:Option Addr) (x2n x2c:Nat):fK prg 102 [(2,.slice x2p x2n x2c)]=some [.slice none 0 0,.int .i64 0,.slice x2p x2n x2c,.slice none 0 0,.bool false,.bool false,.bool false,.int .i64 0,.int .i64 0]:=by kernel_rfl
theorem YY (x2:Int):fK prg 108 [(2,.int .i64 x2)]=some [.int .u8 0,.string ⟨#[]⟩,.int .i64 x2]:=by kernel_rfl
theorem zZ  : fK prg 35 []=some [.int .u8 0,.string ⟨#[]⟩,.string ⟨#[]⟩,.int .i64 0,.int .i64 0,.slice none 0 0,.slice none 0 0]:=by kernel_rfl
theorem OM (x00 x01 x02:Value):uO prg 99 1 [(0,.agg [x00,x01,x02].toArray)]=some (108,[x00,x01,x02]):=by kernel_rfl
theorem tQ:cV prg 89=true:=by kernel_rfl
theorem aE1:cV prg 138=true:=by kernel_rfl
theorem GC:cV prg 139=true:=by kernel_rfl
theorem OE:cV prg 140=true:=by kernel_rfl
theorem EB:cV prg 48=true:=by kernel_rfl
theorem BJ:cV prg 144=true:=by kernel_rfl
theorem aV4:PG prg 163=some (19,1):=by kernel_rfl
theorem aS8:cV prg 90=true:=by kernel_rfl
theorem RU:cV prg 91=true:=by kernel_rfl
theorem DW:cV prg 92=true:=by kernel_rfl
theorem RT:cV prg 93=true:=by kernel_rfl
theorem aU7:cV prg 19=true:=by kernel_rfl
theorem JP:cV prg 26=true:=by kernel_rfl
theorem eD:lR prg 27=some (some 7):=by kernel_rfl
theorem RW:cV prg 82=true:=by kernel_rfl
theorem hZ:eN prg 27 0=some 0:=by kernel_rfl
theorem wV:eN prg 27 1=some 1:=by kernel_rfl
theorem uK:eN prg 27 2=some 2:=by kernel_rfl
theorem jR:eN prg 27 3=some 3:=by kernel_rfl
theorem jQ:eN prg 27 4=some 4:=by kernel_rfl
theorem eZ:eN prg 27 5=some 5:=by kernel_rfl
theorem kL:iP prg 27=some 7:=by kernel_rfl
theorem oQ:qK prg 27=some
 [Go.Value.int Go.IntKind.i64 (Int.ofNat 0),Go.Value.string { data:={ toList:=[] } },
  Go.Value.string { data:={ toList:=[] } },Go.Value.int Go.IntKind.i64 (Int.ofNat 0),
  Go.Value.int Go.IntKind.i64 (Int.ofNat 0),Go.Value.slice none 0 0,Go.Value.slice none 0 0]:=by kernel_rfl
theorem GJ (x0:Int):fK prg 27 [(0,.int .i64 x0)]=some [.int .i64 x0,.string ⟨#[]⟩,.string ⟨#[]⟩,.int .i64 0,.int .i64 0,.slice none 0 0,.slice none 0 0]:=by kernel_rfl
theorem bL1  : fK prg 83 []=some [.int .i64 0,.string ⟨#[]⟩,.int .i64 0,.slice none 0 0]:=by kernel_rfl
theorem AB:lR prg 25=some none:=by kernel_rfl
theorem aT3:cV prg 70=true:=by kernel_rfl
theorem kQ:eN prg 27 6=some 6:=by kernel_rfl
theorem zU:iP prg 25=some 1:=by kernel_rfl
theorem yF (x00 x01 x02 x03 x04 x05 x06:Value):uO prg 25 1 [(0,.agg [x00,x01,x02,x03,x04,x05,x06].toArray)]=some (27,[x00,x01,x02,x03,x04,x05,x06]):=by kernel_rfl
theorem SJ:cV prg 16=true:=by kernel_rfl
theorem uH:slN prg 25=some 7:=by kernel_rfl
theorem GI (x0:Int) (x1 x2:ByteArray) (x3 x4:Int):fK prg 35 [(0,.int .u8 x0),(1,.string x1),(2,.string x2),(3,.int .i64 x3),(4,.int .i64 x4)]=some [.int .u8 x0,.string x1,.string x2,.int .i64 x3,.int .i64 x4,.slice none 0 0,.slice none 0 0]:=by kernel_rfl
theorem SH:cV prg 23=true:=by kernel_rfl
theorem SB:cV prg 50=true:=by kernel_rfl
theorem aU9:cV prg 13=true:=by kernel_rfl
theorem aU6:cV prg 21=true:=by kernel_rfl
theorem vI:cV prg 133=true:=by kernel_rfl
theorem aS9:cV prg 88=true:=by kernel_rfl
theorem SE:cV prg 40=true:=by kernel_rfl
theorem SC:cV prg 42=true:=by kernel_rfl
theorem DY:cV prg 85=true:=by kernel_rfl
theorem DX:cV prg 86=true:=by kernel_rfl
theorem RV:cV prg 84=true:=by kernel_rfl
theorem SD:cV prg 41=true:=by kernel_rfl
theorem aU8:cV prg 17=true:=by kernel_rfl
theorem aU5:cV prg 24=true:=by kernel_rfl
theorem aU3:cV prg 30=true:=by kernel_rfl
theorem aE8 (x0 x1 x2 x3:ByteArray):uO prg 71 4 [(0,.string x0),(1,.string x1),(2,.string x2),(3,.string x3)]=some (9,[.string x0,.string x1,.string x2,.string x3]):=by kernel_rfl
theorem bL2:lR prg 67=some none:=by kernel_rfl
theorem vE:cV prg 64=true:=by kernel_rfl
theorem tT:cV prg 65=true:=by kernel_rfl
theorem fW:cV prg 122=true:=by kernel_rfl
theorem aD4:cV prg 168=true:=by kernel_rfl
theorem PO:eN prg 140 0=some 0:=by kernel_rfl
theorem nT:eN prg 140 1=some 1:=by kernel_rfl
theorem gD:eN prg 140 2=some 2:=by kernel_rfl
theorem nS:eN prg 140 3=some 3:=by kernel_rfl
structure Tkq (H:Hp) (l:Tks) (tp:Option Addr) (tc:Nat):Prop where
 rep:Rep H (.seq 3 (l.map (dTk .i64))) [.slice tp l.length tc]
 gd:Tgd l
 short:∀ t∈l,t.t.length<=400000
 few:l.length<=600000
 num:∀ t∈l,t.k=3->pre iC t.t=t.t.length/\¬ t.t=[]
variable {H H':Hp} {l:Tks} {tp:Option Addr} {tc:Nat}
theorem Tkq.up (h:Tkq H l tp tc) (u:Up H H'):Tkq H' l tp tc:=⟨h.rep.up u,h.gd,h.short,h.few,h.num⟩
variable {i:Nat}
theorem aX8 (h:i<l.length):l[i]=tkf l i:=by unfold tkf;rw [List.getD_eq_getElem?_getD,List.getElem?_eq_getElem h];rfl
theorem SQ (h:i<l.length):tkf l i∈l:=by rw [<-aX8 h];exact bI h
variable {q:Rq}
theorem iD (K:Tkq H l tp tc) (hq:q.i<l.length):(q.nmV l).length<=400000:=by
 unfold Rq.nmV
 split
 ·exact K.short _ (SQ hq)
 ·exact aP _
theorem cD3 (a b c:Value):∀ W,(Instr.field 70 (.agg [a,b,c].toArray) 2).run prg W=.ok c W:=λ_=>by kernel_rfl
theorem aB2 (a b c:Value):∀ W,(Instr.field 70 (.agg [a,b,c].toArray) 0).run prg W=.ok a W:=λ_=>by kernel_rfl
variable {m:Nat}
theorem g8 {k:UInt8} (hm:m<256):decide (((k.toNat:Nat):Int)=(m:Int))=decide (k=UInt8.ofNat m):=by
 rw [aX,aA,aA]
 constructor
 ·intro e;exact aR.1 (by rw [cW hm];omega)
 ·intro e;rw [e,cW hm]
theorem g82 {k:UInt8} :decide (((k.toNat:Nat):Int)=2)=decide (k=2):=g8 (m:=2) (by decide)
theorem g84 {k:UInt8} :decide (((k.toNat:Nat):Int)=4)=decide (k=4):=g8 (m:=4) (by decide)
variable {n:Nat}
theorem EG:decide (((n:Nat):Int)=0)=decide (n=0):=by rw [aX,aA,aA];omega
variable {w:Str}
theorem qL (h:q.ac l w=true):q.acS l w=q.nx:=by unfold Rq.acS;rw [aM h]
theorem qM (h:q.ac l w=false):q.acS l w=q:=by unfold Rq.acS;rw [aD (by rw [h];decide)]
variable {w0 W:World} {bs:List Res} {b:Nat} {mi:Bool}
theorem MV (K:Tkq H l tp tc) (hq:q.i<l.length) (s:St H w0 (.box b [.slice tp l.length tc,iN q.i,iN q.er,iN q.off,.bool (mi)] 140::bs) W) :
 Calls prg 64 #[.pointer (some ⟨b,0,none⟩)] W λe W'=>∃ _:Unit,(True)/\e=.returned (.agg (cTk .i64 (tkf l q.i)).toArray)/\St H w0 (.box b [.slice tp l.length tc,iN q.i,iN q.er,iN q.off,.bool (mi)] 140::bs) W':=by
 have hcap:=K.rep.cap;obtain ⟨bE,oE,cE,hpE,rE,lE,mE⟩:=K.rep.elem (iL (f:=dTk .i64) hq);cases hpE;rw [aX8 hq] at rE;obtain ⟨rfl,_⟩:=GR rE;refine fN func64 rfl ntmps64 rfl s ?_;refine .sr<|.al vB Z λb2=>.nt<|.sq<|.fL 10 [(0,0),(1,0),(2,0),(3,0),(4,0),(5,0),(6,0),(7,0),(8,0),(9,0)]<|.mv Z<|.nC Z<|.fA Z PO<|.lD Z bL2 cR Z<|.mv Z<|.nC Z<|.fA Z nT<|.lD Z bS cR Z<|.yw (.indexSl LN Z Z Z (by omega) (q:=oE+q.i * 3) Z)<|.yw (.loadMW Z oR mE Z)<|.fn (tl:=[_]) Z<|.sW .head Z Z lT (by simp [cTk,Value.oneCell',bV]) Z<|.nt<|.rt<|?_
 refine y8 Z (.cell Z oR Hm rfl) λW s=>?_;exact ⟨(),Jt,Z,s.p2_1 [1] rfl⟩
theorem CT (K:Tkq H l tp tc) (hq:q.i<l.length) (c:Nat) (s:St H w0 (.box b [.slice tp l.length tc,iN q.i,iN q.er,iN q.off,.bool (mi)] 140::bs) W) :
 Calls prg 65 #[.pointer (some ⟨b,0,none⟩),iN c] W λe W'=>∃ _:Unit,(True)/\e=.returned (.tuple #[])/\St H w0 (.box b [.slice tp l.length tc,iN ((q.fail l c).i),iN ((q.fail l c).er),iN ((q.fail l c).off),.bool (mi)] 140::bs) W':=by
 refine fN func65 rfl ntmps65 rfl s ?_;refine .sm Z<|.nC Z<|.fA Z gD<|.lD Z bS Hm Z<|.yw (.eql Z Z)<|.nt<|.ce Z (λh8=>?_) (λh8=>?_)
 ·have h0:q.er=0:=by omega
  have e1:q.fail l c=⟨q.i,(tkf l q.i).o,c⟩:=by unfold Rq.fail;rw [aM h0]
  rw [e1];refine .rg<|.mv Z<|.mv Z<|.mv Z<|.mv Z<|.cs (X:=Unit) vE Z (λW s=>MV K hq  (s.p1_1 [0] Z)) Z λ_ _=>.yw (.fld Z (cD3 _ _ _))<|.nC Z<|.fA Z gD<|.st .head Z Z iG Z (nb Z) Z<|.nC Z<|.fA Z nS<|.st .head Z Z iG Z (nb Z) Z<|.nl<|?_
  refine jE (.inr Z) rfl .nil rfl λW s=>⟨(),Jt,Z,?_⟩;exact s.p1_1 [0] rfl
 have h0:¬ q.er=0:=by omega
 have e1:q.fail l c=q:=by unfold Rq.fail;rw [aD h0]
 rw [e1];refine .sk<|?_
 refine jE (.inr Z) rfl .nil rfl λW s=>⟨(),Jt,Z,?_⟩;exact s.p1_1 [0] rfl
theorem cM6 (K:Tkq H l tp tc) (hq:q.i<l.length) (w:Str) (s:St H w0 (.box b [.slice tp l.length tc,iN q.i,iN q.er,iN q.off,.bool (mi)] 140::bs) W) :
 Calls prg 168 #[.pointer (some ⟨b,0,none⟩),bV w] W λe W'=>∃ _:Unit,(True)/\e=.returned (.bool (q.ac l w))/\St H w0 (.box b [.slice tp l.length tc,iN q.i,iN q.er,iN q.off,.bool (mi)] 140::bs) W':=by
 refine fN func168 rfl ntmps168 rfl s ?_;refine .sr<|.a Z Z<|.ns<|.mv Z<|.cs (X:=Unit) vE Z (λW s=>MV K hq  (s.p1_1 [0] Z)) Z λ_ _=>.al vB Z λb5=>.sW .head Z Z lT (by simp [cTk,Value.oneCell',bV]) Z<|.ns<|.mv Z<|.nC Z<|.fA Z gD<|.lD Z bS cR Z<|.yw (.eql Z Z)<|.mv Z<|.b2 (λh13=>?_) (λh13=>?_)
 ·refine .gy (.fieldAddr Z rV)<|.gy (.load Z bS Hm Z)<|.gy (.eql Z Z)<|.gy (.move Z)<|.b2 (λh17=>?_) (λh17=>?_)
  ·refine .gG<|.gG<|.gG<|.gy (.pickT Z Z)<|.yw (.pickT Z Z)<|.mv Z<|.gy (.fieldAddr Z lC)<|.gy (.load Z cP Hm Z)<|.gy (.move Z)<|.gy (.eqS Z Z)<|.yw (.pickT Z Z)<|.az Z<|?_
   refine y9 Z Z λW s=>?_
   first
    | (exact ⟨(),Jt,(by unfold Rq.ac Rq.is;rw [<-EG,<-g82,<-g84,h13,h17];first | rfl | (simp only [aG,aN,Bool.true_or,Bool.or_true,aL,Bool.and_false];done) | (simp only [aG,aN,Bool.true_or,Bool.or_true,aL,Bool.and_false];rfl)),s.p2_1 [1] rfl⟩)
    | (exact ⟨(),Jt,(by unfold Rq.ac Rq.is;rw [<-EG,<-g82,<-g84,h13,h17,h23];first | rfl | (simp only [aG,aN,Bool.true_or,Bool.or_true,aL,Bool.and_false];done) | (simp only [aG,aN,Bool.true_or,Bool.or_true,aL,Bool.and_false];rfl)),s.p2_1 [1] rfl⟩)
    | (exact ⟨(),Jt,(by unfold Rq.ac Rq.is;rw [<-EG,<-g82,<-g84,h13,h23];first | rfl | (simp only [aG,aN,Bool.true_or,Bool.or_true,aL,Bool.and_false];done) | (simp only [aG,aN,Bool.true_or,Bool.or_true,aL,Bool.and_false];rfl)),s.p2_1 [1] rfl⟩)
    | (exact ⟨(),Jt,(by unfold Rq.ac Rq.is;rw [<-EG,<-g82,<-g84,h13];first | rfl | (simp only [aG,aN,Bool.true_or,Bool.or_true,aL,Bool.and_false];done) | (simp only [aG,aN,Bool.true_or,Bool.or_true,aL,Bool.and_false];rfl)),s.p2_1 [1] rfl⟩)
  refine .gy (.fieldAddr Z rV)<|.gy (.load Z bS Hm Z)<|.gy (.eql Z Z)<|.gy (.pickF Z Z)<|.yw (.pickT Z Z)<|.mv Z<|.b2 (λh23=>?_) (λh23=>?_)
  ·refine .gy (.fieldAddr Z lC)<|.gy (.load Z cP Hm Z)<|.gy (.move Z)<|.gy (.eqS Z Z)<|.yw (.pickT Z Z)<|.az Z<|?_
   refine y9 Z Z λW s=>?_
   first
    | (exact ⟨(),Jt,(by unfold Rq.ac Rq.is;rw [<-EG,<-g82,<-g84,h13,h17];first | rfl | (simp only [aG,aN,Bool.true_or,Bool.or_true,aL,Bool.and_false];done) | (simp only [aG,aN,Bool.true_or,Bool.or_true,aL,Bool.and_false];rfl)),s.p2_1 [1] rfl⟩)
    | (exact ⟨(),Jt,(by unfold Rq.ac Rq.is;rw [<-EG,<-g82,<-g84,h13,h17,h23];first | rfl | (simp only [aG,aN,Bool.true_or,Bool.or_true,aL,Bool.and_false];done) | (simp only [aG,aN,Bool.true_or,Bool.or_true,aL,Bool.and_false];rfl)),s.p2_1 [1] rfl⟩)
    | (exact ⟨(),Jt,(by unfold Rq.ac Rq.is;rw [<-EG,<-g82,<-g84,h13,h23];first | rfl | (simp only [aG,aN,Bool.true_or,Bool.or_true,aL,Bool.and_false];done) | (simp only [aG,aN,Bool.true_or,Bool.or_true,aL,Bool.and_false];rfl)),s.p2_1 [1] rfl⟩)
    | (exact ⟨(),Jt,(by unfold Rq.ac Rq.is;rw [<-EG,<-g82,<-g84,h13];first | rfl | (simp only [aG,aN,Bool.true_or,Bool.or_true,aL,Bool.and_false];done) | (simp only [aG,aN,Bool.true_or,Bool.or_true,aL,Bool.and_false];rfl)),s.p2_1 [1] rfl⟩)
  refine .gG<|.gG<|.gG<|.gG<|.yw (.pickF Z Z)<|.az Z<|?_
  refine y9 Z Z λW s=>?_
  first
   | (exact ⟨(),Jt,(by unfold Rq.ac Rq.is;rw [<-EG,<-g82,<-g84,h13,h17];first | rfl | (simp only [aG,aN,Bool.true_or,Bool.or_true,aL,Bool.and_false];done) | (simp only [aG,aN,Bool.true_or,Bool.or_true,aL,Bool.and_false];rfl)),s.p2_1 [1] rfl⟩)
   | (exact ⟨(),Jt,(by unfold Rq.ac Rq.is;rw [<-EG,<-g82,<-g84,h13,h17,h23];first | rfl | (simp only [aG,aN,Bool.true_or,Bool.or_true,aL,Bool.and_false];done) | (simp only [aG,aN,Bool.true_or,Bool.or_true,aL,Bool.and_false];rfl)),s.p2_1 [1] rfl⟩)
   | (exact ⟨(),Jt,(by unfold Rq.ac Rq.is;rw [<-EG,<-g82,<-g84,h13,h23];first | rfl | (simp only [aG,aN,Bool.true_or,Bool.or_true,aL,Bool.and_false];done) | (simp only [aG,aN,Bool.true_or,Bool.or_true,aL,Bool.and_false];rfl)),s.p2_1 [1] rfl⟩)
   | (exact ⟨(),Jt,(by unfold Rq.ac Rq.is;rw [<-EG,<-g82,<-g84,h13];first | rfl | (simp only [aG,aN,Bool.true_or,Bool.or_true,aL,Bool.and_false];done) | (simp only [aG,aN,Bool.true_or,Bool.or_true,aL,Bool.and_false];rfl)),s.p2_1 [1] rfl⟩)
 refine .gG<|.gG<|.gG<|.gG<|.gV<|.gV<|.gV<|.gG<|.yw (.pickF Z Z)<|.mv Z<|.gG<|.gG<|.gG<|.gG<|.yw (.pickF Z Z)<|.az Z<|?_
 refine y9 Z Z λW s=>?_
 first
  | (exact ⟨(),Jt,(by unfold Rq.ac Rq.is;rw [<-EG,<-g82,<-g84,h13,h17];first | rfl | (simp only [aG,aN,Bool.true_or,Bool.or_true,aL,Bool.and_false];done) | (simp only [aG,aN,Bool.true_or,Bool.or_true,aL,Bool.and_false];rfl)),s.p2_1 [1] rfl⟩)
  | (exact ⟨(),Jt,(by unfold Rq.ac Rq.is;rw [<-EG,<-g82,<-g84,h13,h17,h23];first | rfl | (simp only [aG,aN,Bool.true_or,Bool.or_true,aL,Bool.and_false];done) | (simp only [aG,aN,Bool.true_or,Bool.or_true,aL,Bool.and_false];rfl)),s.p2_1 [1] rfl⟩)
  | (exact ⟨(),Jt,(by unfold Rq.ac Rq.is;rw [<-EG,<-g82,<-g84,h13,h23];first | rfl | (simp only [aG,aN,Bool.true_or,Bool.or_true,aL,Bool.and_false];done) | (simp only [aG,aN,Bool.true_or,Bool.or_true,aL,Bool.and_false];rfl)),s.p2_1 [1] rfl⟩)
  | (exact ⟨(),Jt,(by unfold Rq.ac Rq.is;rw [<-EG,<-g82,<-g84,h13];first | rfl | (simp only [aG,aN,Bool.true_or,Bool.or_true,aL,Bool.and_false];done) | (simp only [aG,aN,Bool.true_or,Bool.or_true,aL,Bool.and_false];rfl)),s.p2_1 [1] rfl⟩)
theorem mN (K:Tkq H l tp tc) (hq:q.i<l.length) (w:Str) (s:St H w0 (.box b [.slice tp l.length tc,iN q.i,iN q.er,iN q.off,.bool (mi)] 140::bs) W) :
 Calls prg 122 #[.pointer (some ⟨b,0,none⟩),bV w] W λe W'=>∃ _:Unit,(True)/\e=.returned (.bool (q.ac l w))/\St H w0 (.box b [.slice tp l.length tc,iN ((q.acS l w).i),iN ((q.acS l w).er),iN ((q.acS l w).off),.bool (mi)] 140::bs) W':=by
 have hcap:=K.rep.cap;refine fN func122 rfl ntmps122 rfl s ?_;refine .sr<|.aq Z<|.sq<|.sm Z<|.mv Z<|.cs (X:=Unit) aD4 Z (λW s=>cM6 K hq w (s.p1_1 [0] Z)) Z λ_ _=>.nt<|.cd Z (λh7=>?_) (λh7=>?_)
 ·have e3:q.ac l w=true:=h7;rw [qL e3];have hi:=cC K.gd.last hq e3;have hi2:q.nx.i=q.i+1:=rfl;refine .sm Z<|.nC Z<|.fA Z nT<|.lD Z bS Hm Z<|.yw (.add Z Z (c:=((q.nx.i:Nat):Int)) ((w6 (by omega)).trans (by show _=((q.i+1:Nat):Int);omega)))<|.nC Z<|.fA Z nT<|.st .head Z Z iG Z (nb Z) Z<|.ns<|.az Z<|.tR<|?_
  refine y9 Z Z λW s=>?_;exact ⟨(),Jt,(by rw [e3]),s.p1_1 [0] rfl⟩
 have e3:q.ac l w=false:=h7;rw [qM e3];refine .sk<|.tN<|.sr<|.az Z<|?_
 refine y9 Z Z λW s=>?_;exact ⟨(),Jt,(by rw [e3]),s.p1_1 [0] rfl⟩
theorem sZ (K:Tkq H l tp tc) (hq:q.i<l.length) (w:Str) (s:St H w0 (.box b [.slice tp l.length tc,iN q.i,iN q.er,iN q.off,.bool (mi)] 140::bs) W) :
 Calls prg 187 #[.pointer (some ⟨b,0,none⟩),bV w] W λe W'=>∃ _:Unit,(True)/\e=.returned (.tuple #[])/\St H w0 (.box b [.slice tp l.length tc,iN ((q.exS l w).i),iN ((q.exS l w).er),iN ((q.exS l w).off),.bool (mi)] 140::bs) W':=by
 refine fN func187 rfl ntmps187 rfl s ?_;refine .sm Z<|.mv Z<|.cs (X:=Unit) fW Z (λW s=>mN K hq w (s.p1_1 [0] Z)) Z λ_ _=>.yw (.not Z)<|.nt<|.cd Z (λh7=>?_) (λh7=>?_)
 ·have hb:q.ac l w=false:=by simpa using h7
  have e1:q.exS l w=q.fail l 8:=NN hb;rw [qM hb,e1];refine .rg<|.mv Z<|.cs (X:=Unit) tT Z (λW s=>CT K hq 8 (s.p1_1 [0] Z)) Z λ_ _=>.nl<|?_
  refine jE (.inr Z) rfl .nil rfl λW s=>⟨(),Jt,Z,?_⟩;exact s.p1_1 [0] rfl
 have hb:q.ac l w=true:=by simpa using h7
 have e1:q.exS l w=q.nx:=NO hb;rw [qL hb,e1];refine .sk<|?_
 refine jE (.inr Z) rfl .nil rfl λW s=>⟨(),Jt,Z,?_⟩;exact s.p1_1 [0] rfl
theorem IZ (K:Tkq H l tp tc) (hq:q.i<l.length) (s:St H w0 (.box b [.slice tp l.length tc,iN q.i,iN q.er,iN q.off,.bool (mi)] 140::bs) W) :
 Calls prg 186 #[.pointer (some ⟨b,0,none⟩)] W λe W'=>∃ _:Unit,(True)/\e=.returned (bV (q.nmV l))/\St H w0 (.box b [.slice tp l.length tc,iN ((q.nmS l).i),iN ((q.nmS l).er),iN ((q.nmS l).off),.bool (mi)] 140::bs) W':=by
 have hcap:=K.rep.cap;refine fN func186 rfl ntmps186 rfl s ?_;refine .sr<|.a Z Z<|.ns<|.mv Z<|.cs (X:=Unit) vE Z (λW s=>MV K hq  (s.p1_1 [0] Z)) Z λ_ _=>.al vB Z λb3=>.sW .head Z Z lT (by simp [cTk,Value.oneCell',bV]) Z<|.nt<|.sq<|.sm Z<|.nC Z<|.fA Z gD<|.lD Z bS cR Z<|.yw (.neq Z Z)<|.mv Z<|.e2 (λh11=>?_) (λh11=>?_)
 ·have hbad:¬ q.nmK l=true:=λe=>by have:=(IX e).1;omega
  have e1:q.nmS l=q.fail l 8:=by unfold Rq.nmS;rw [aD hbad]
  have e2:q.nmV l=[]:=by unfold Rq.nmV;rw [aD hbad]
  rw [e1,e2];refine .gG<|.gG<|.gG<|.yw (.pickT Z Z)<|.nt<|.cT Z<|.sm Z<|.cs (X:=Unit) tT Z (λW s=>CT K hq 8 (s.p2_2 [1,0] Z)) Z λ_ _=>.ns<|.az Z<|.tR<|?_
  refine y9 Z Z λW s=>?_;exact ⟨(),Jt,Z,s.p2_1 [0] rfl⟩
 have h0:q.er=0:=by omega
 refine .gy (.fieldAddr Z rV)<|.gy (.load Z bS Hm Z)<|.gy (.neq Z Z)<|.yw (.pickF Z Z)<|.nt<|.ce Z (λh15=>?_) (λh15=>?_)
 ·have hbad:¬ q.nmK l=true:=λe=>by have:=(IX e).2;simp [this] at h15
  have e1:q.nmS l=q.fail l 8:=by unfold Rq.nmS;rw [aD hbad]
  have e2:q.nmV l=[]:=by unfold Rq.nmV;rw [aD hbad]
  rw [e1,e2];refine .sm Z<|.cs (X:=Unit) tT Z (λW s=>CT K hq 8 (s.p2_2 [1,0] Z)) Z λ_ _=>.ns<|.az Z<|.tR<|?_
  refine y9 Z Z λW s=>?_;exact ⟨(),Jt,Z,s.p2_1 [0] rfl⟩
 have hk:(tkf l q.i).k=1:=aR.1 (by show (tkf l q.i).k.toNat=1;omega);have hok:q.nmK l=true:=by unfold Rq.nmK;rw [aF h0,aF hk];rfl
 have e1:q.nmS l=q.nx:=by unfold Rq.nmS;rw [aM hok]
 have e2:q.nmV l=(tkf l q.i).t:=by unfold Rq.nmV;rw [aM hok]
 rw [e1,e2];have hi:=LS K.gd.last hq hok;have hi2:q.nx.i=q.i+1:=rfl;refine .sk<|.tN<|.sm Z<|.nC Z<|.fA Z nT<|.lD Z bS cR Z<|.yw (.add Z Z (c:=((q.nx.i:Nat):Int)) ((w6 (by omega)).trans (by show _=((q.i+1:Nat):Int);omega)))<|.nC Z<|.fA Z nT<|.st jS Z Z iG Z (nb Z) Z<|.ns<|.fA Z lC<|.lD Z cP Hm Z<|.az Z<|?_
 refine y9 Z Z λW s=>?_;exact ⟨(),Jt,Z,s.p2_1 [1] rfl⟩
structure Tkf (H:Hp) (l:Tks) (tp:Option Addr) (tc:Nat):Prop where
 rep:Rep H (.seq 3 (l.map (dTk .u8))) [.slice tp l.length tc]
 gd:Tgd l
 short:∀ t∈l,t.t.length<=400000
 few:l.length<=600000
 num:∀ t∈l,t.k=3->pre iC t.t=t.t.length/\¬ t.t=[]
theorem Tkf.up (h:Tkf H l tp tc) (u:Up H H'):Tkf H' l tp tc:=⟨h.rep.up u,h.gd,h.short,h.few,h.num⟩
theorem ZH (h:i<l.length):l[i]=tkf l i:=by unfold tkf;rw [List.getD_eq_getElem?_getD,List.getElem?_eq_getElem h];rfl
theorem SR (h:i<l.length):tkf l i∈l:=by rw [<-ZH h];exact bI h
theorem gT (K:Tkf H l tp tc) (hq:q.i<l.length):(q.nmV l).length<=400000:=by
 unfold Rq.nmV
 split
 ·exact K.short _ (SR hq)
 ·exact aP _
theorem aB3 (a b c:Value):∀ W,(Instr.field 108 (.agg [a,b,c].toArray) 0).run prg W=.ok a W:=λ_=>by kernel_rfl
theorem cD4 (a b c:Value):∀ W,(Instr.field 108 (.agg [a,b,c].toArray) 2).run prg W=.ok c W:=λ_=>by kernel_rfl
theorem k8 {k:UInt8} (hm:m<256):decide (((k.toNat:Nat):Int)=(m:Int))=decide (k=UInt8.ofNat m):=by
 rw [aX,aA,aA]
 constructor
 ·intro e;exact aR.1 (by rw [cW hm];omega)
 ·intro e;rw [e,cW hm]
theorem k80 {k:UInt8} :decide (((k.toNat:Nat):Int)=0)=decide (k=0):=k8 (m:=0) (by decide)
theorem k81 {k:UInt8} :decide (((k.toNat:Nat):Int)=1)=decide (k=1):=k8 (m:=1) (by decide)
theorem k82 {k:UInt8} :decide (((k.toNat:Nat):Int)=2)=decide (k=2):=k8 (m:=2) (by decide)
theorem k84 {k:UInt8} :decide (((k.toNat:Nat):Int)=4)=decide (k=4):=k8 (m:=4) (by decide)
theorem er0:decide (((n:Nat):Int)=0)=decide (n=0):=by rw [aX,aA,aA];omega
variable {ro rv:Value} {bd:Bool}
theorem yL {rd dn:Bool} (K:Tkf H l tp tc) (hq:q.i<l.length) (s:St H w0 (.box b [.slice tp l.length tc,iN q.i,ro,rv,.bool rd,.bool dn,.bool bd,iN q.off,iN q.er] 102::bs) W) :
 Calls prg 98 #[.pointer (some ⟨b,0,none⟩)] W λe W'=>∃ _:Unit,(True)/\e=.returned (.agg (cTk .u8 (tkf l q.i)).toArray)/\St H w0 (.box b [.slice tp l.length tc,iN q.i,ro,rv,.bool rd,.bool dn,.bool bd,iN q.off,iN q.er] 102::bs) W':=by
 have hcap:=K.rep.cap;obtain ⟨bE,oE,cE,hpE,rE,lE,mE⟩:=K.rep.elem (iL (f:=dTk .u8) hq);cases hpE;rw [ZH hq] at rE;obtain ⟨rfl,_⟩:=GR rE;refine fN func98 rfl ntmps98 rfl s ?_;refine .sr<|.al xZ Z λb2=>.nt<|.sq<|.fL 10 [(0,0),(1,0),(2,0),(3,0),(4,0),(5,0),(6,0),(7,0),(8,0),(9,0)]<|.mv Z<|.nC Z<|.fA Z qD<|.lD Z IK cR Z<|.mv Z<|.nC Z<|.fA Z iE<|.lD Z bS cR Z<|.yw (.indexSl aL3 Z Z Z (by omega) (q:=oE+q.i * 3) Z)<|.yw (.loadMW Z JW mE Z)<|.fn (tl:=[_]) Z<|.sW .head Z Z yB (by simp [cTk,Value.oneCell',bV]) Z<|.nt<|.rt<|?_
 refine y8 Z (.cell Z JW Hm rfl) λW s=>?_;exact ⟨(),Jt,Z,s.p2_1 [1] rfl⟩
theorem qZ {rd dn:Bool} (K:Tkf H l tp tc) (hq:q.i<l.length) (c:Nat) (s:St H w0 (.box b [.slice tp l.length tc,iN q.i,ro,rv,.bool rd,.bool dn,.bool bd,iN q.off,iN q.er] 102::bs) W) :
 Calls prg 104 #[.pointer (some ⟨b,0,none⟩),iN c] W λe W'=>∃ _:Unit,(True)/\e=.returned (.tuple #[])/\St H w0 (.box b [.slice tp l.length tc,iN ((q.fail l c).i),ro,rv,.bool rd,.bool dn,.bool bd,iN ((q.fail l c).off),iN ((q.fail l c).er)] 102::bs) W':=by
 refine fN func104 rfl ntmps104 rfl s ?_;refine .sm Z<|.nC Z<|.fA Z jM<|.lD Z rL Hm Z<|.yw (.eql Z Z)<|.nt<|.ce Z (λh8=>?_) (λh8=>?_)
 ·have h0:q.er=0:=by omega
  have e1:q.fail l c=⟨q.i,(tkf l q.i).o,c⟩:=by unfold Rq.fail;rw [aM h0]
  rw [e1];refine .rg<|.mv Z<|.mv Z<|.mv Z<|.mv Z<|.cs (X:=Unit) tP Z (λW s=>yL K hq  (s.p1_1 [0] Z)) Z λ_ _=>.yw (.fld Z (cD4 _ _ _))<|.nC Z<|.fA Z jM<|.st .head Z Z aS3 Z (nb Z) Z<|.nC Z<|.fA Z sO<|.st .head Z Z iG Z (nb Z) Z<|.nl<|?_
  refine jE (.inr Z) rfl .nil rfl λW s=>⟨(),Jt,Z,?_⟩;exact s.p1_1 [0] rfl
 have h0:¬ q.er=0:=by omega
 have e1:q.fail l c=q:=by unfold Rq.fail;rw [aD h0]
 rw [e1];refine .sk<|?_
 refine jE (.inr Z) rfl .nil rfl λW s=>⟨(),Jt,Z,?_⟩;exact s.p1_1 [0] rfl
theorem FL {rd dn:Bool} (K:Tkf H l tp tc) (hq:q.i<l.length) (w:Str) (s:St H w0 (.box b [.slice tp l.length tc,iN q.i,ro,rv,.bool rd,.bool dn,.bool bd,iN q.off,iN q.er] 102::bs) W) :
 Calls prg 100 #[.pointer (some ⟨b,0,none⟩),bV w] W λe W'=>∃ _:Unit,(True)/\e=.returned (.bool (q.is l w))/\St H w0 (.box b [.slice tp l.length tc,iN q.i,ro,rv,.bool rd,.bool dn,.bool bd,iN q.off,iN q.er] 102::bs) W':=by
 refine fN func100 rfl ntmps100 rfl s ?_;refine .sr<|.a Z Z<|.ns<|.mv Z<|.cs (X:=Unit) tP Z (λW s=>yL K hq  (s.p1_1 [0] Z)) Z λ_ _=>.al xZ Z λb5=>.sW .head Z Z yB (by simp [cTk,Value.oneCell',bV]) Z<|.ns<|.fA Z jY<|.lD Z oS Hm Z<|.yw (.eql Z Z)<|.mv Z<|.b2 (λh11=>?_) (λh11=>?_)
 ·refine .gG<|.gG<|.gG<|.yw (.pickT Z Z)<|.mv Z<|.gy (.fieldAddr Z lH)<|.gy (.load Z cP Hm Z)<|.gy (.move Z)<|.gy (.eqS Z Z)<|.yw (.pickT Z Z)<|.az Z<|?_
  refine y9 Z Z λW s=>?_
  first
   | (exact ⟨(),Jt,(by unfold Rq.is;rw [<-k82,<-k84,h11,h16];first | rfl | (rw [aG]) | (rw [Bool.or_true,aG])),s.p2_1 [1] rfl⟩)
   | (exact ⟨(),Jt,(by unfold Rq.is;rw [<-k82,<-k84,h11];first | rfl | (rw [aG]) | (rw [Bool.or_true,aG])),s.p2_1 [1] rfl⟩)
   | (exact ⟨(),Jt,(by unfold Rq.is;rw [<-k82,<-k84,h16];first | rfl | (rw [aG]) | (rw [Bool.or_true,aG])),s.p2_1 [1] rfl⟩)
 refine .gy (.fieldAddr Z jY)<|.gy (.load Z oS Hm Z)<|.gy (.eql Z Z)<|.yw (.pickF Z Z)<|.mv Z<|.b2 (λh16=>?_) (λh16=>?_)
 ·refine .gy (.fieldAddr Z lH)<|.gy (.load Z cP Hm Z)<|.gy (.move Z)<|.gy (.eqS Z Z)<|.yw (.pickT Z Z)<|.az Z<|?_
  refine y9 Z Z λW s=>?_
  first
   | (exact ⟨(),Jt,(by unfold Rq.is;rw [<-k82,<-k84,h11,h16];first | rfl | (rw [aG]) | (rw [Bool.or_true,aG])),s.p2_1 [1] rfl⟩)
   | (exact ⟨(),Jt,(by unfold Rq.is;rw [<-k82,<-k84,h11];first | rfl | (rw [aG]) | (rw [Bool.or_true,aG])),s.p2_1 [1] rfl⟩)
   | (exact ⟨(),Jt,(by unfold Rq.is;rw [<-k82,<-k84,h16];first | rfl | (rw [aG]) | (rw [Bool.or_true,aG])),s.p2_1 [1] rfl⟩)
 refine .gG<|.gG<|.gG<|.gG<|.yw (.pickF Z Z)<|.az Z<|?_
 refine y9 Z Z λW s=>?_
 first
  | (exact ⟨(),Jt,(by unfold Rq.is;rw [<-k82,<-k84,h11,h16];first | rfl | (rw [aG]) | (rw [Bool.or_true,aG])),s.p2_1 [1] rfl⟩)
  | (exact ⟨(),Jt,(by unfold Rq.is;rw [<-k82,<-k84,h11];first | rfl | (rw [aG]) | (rw [Bool.or_true,aG])),s.p2_1 [1] rfl⟩)
  | (exact ⟨(),Jt,(by unfold Rq.is;rw [<-k82,<-k84,h16];first | rfl | (rw [aG]) | (rw [Bool.or_true,aG])),s.p2_1 [1] rfl⟩)
theorem eQ {rd dn:Bool} (K:Tkf H l tp tc) (hq:q.i<l.length) (w:Str) (s:St H w0 (.box b [.slice tp l.length tc,iN q.i,ro,rv,.bool rd,.bool dn,.bool bd,iN q.off,iN q.er] 102::bs) W) :
 Calls prg 107 #[.pointer (some ⟨b,0,none⟩),bV w] W λe W'=>∃ _:Unit,(True)/\e=.returned (.bool (q.ac l w))/\St H w0 (.box b [.slice tp l.length tc,iN ((q.acS l w).i),ro,rv,.bool rd,.bool dn,.bool bd,iN ((q.acS l w).off),iN ((q.acS l w).er)] 102::bs) W':=by
 have hcap:=K.rep.cap;refine fN func107 rfl ntmps107 rfl s ?_;refine .sr<|.aq Z<|.sq<|.sm Z<|.nC Z<|.fA Z jM<|.lD Z rL Hm Z<|.yw (.neq Z Z)<|.mv Z<|.b2 (λh10=>?_) (λh10=>?_)
 ·have h0:¬ q.er=0:=by have:=aJ h10;omega
  have e3:q.ac l w=false:=aL2 h0;have e1:q.acS l w=q:=by unfold Rq.acS;rw [aD (by rw [e3];decide)]
  rw [e1];refine .gG<|.gG<|.gG<|.gG<|.yw (.pickT Z Z)<|.nt<|.cT Z<|.sr<|.az Z<|.tR<|?_
  refine y9 Z Z λW s=>?_;exact ⟨(),Jt,(by rw [e3]),s.p1_1 [0] rfl⟩
 have h0:q.er=0:=by have:=aO h10;omega
 have ea:q.ac l w=q.is l w:=(FM h0).symm;refine .gy (.move Z)<|.gy (.move Z)<|.gd Z Z<|.cs (X:=Unit) kI Z (λW s=>FL K hq w (s.p1_1 [0] Z)) Z λ_ _=>.gy (.not Z)<|.yw (.pickF Z Z)<|.nt<|.cd Z (λh15=>?_) (λh15=>?_)
 ·have e3:q.ac l w=false:=by rw [ea];simpa using h15
  have e1:q.acS l w=q:=by unfold Rq.acS;rw [aD (by rw [e3];decide)]
  rw [e1];refine .sr<|.az Z<|.tR<|?_
  refine y9 Z Z λW s=>?_;exact ⟨(),Jt,(by rw [e3]),s.p1_1 [0] rfl⟩
 have e3:q.ac l w=true:=by rw [ea];simpa using h15
 have e1:q.acS l w=q.nx:=by unfold Rq.acS;rw [aM e3]
 rw [e1];have hi:=cC K.gd.last hq e3;have hi2:q.nx.i=q.i+1:=rfl;refine .sk<|.tN<|.sm Z<|.nC Z<|.fA Z iE<|.lD Z bS Hm Z<|.yw (.add Z Z (c:=((q.nx.i:Nat):Int)) ((w6 (by omega)).trans (by show _=((q.i+1:Nat):Int);omega)))<|.nC Z<|.fA Z iE<|.st .head Z Z iG Z (nb Z) Z<|.ns<|.az Z<|?_
 refine y9 Z Z λW s=>?_;exact ⟨(),Jt,(by rw [e3]),s.p1_1 [0] rfl⟩
theorem lN (h:q.ac l w=true):q.acS l w=q.nx:=by unfold Rq.acS;rw [aM h]
theorem lS (h:q.ac l w=false):q.acS l w=q:=by unfold Rq.acS;rw [aD (by rw [h];decide)]
theorem sL {rd dn:Bool} (K:Tkf H l tp tc) (hq:q.i<l.length) (w:Str) (s:St H w0 (.box b [.slice tp l.length tc,iN q.i,ro,rv,.bool rd,.bool dn,.bool bd,iN q.off,iN q.er] 102::bs) W) :
 Calls prg 114 #[.pointer (some ⟨b,0,none⟩),bV w] W λe W'=>∃ _:Unit,(True)/\e=.returned (.tuple #[])/\St H w0 (.box b [.slice tp l.length tc,iN ((q.exS l w).i),ro,rv,.bool rd,.bool dn,.bool bd,iN ((q.exS l w).off),iN ((q.exS l w).er)] 102::bs) W':=by
 refine fN func114 rfl ntmps114 rfl s ?_;refine .sm Z<|.mv Z<|.cs (X:=Unit) dI Z (λW s=>eQ K hq w (s.p1_1 [0] Z)) Z λ_ _=>.yw (.not Z)<|.nt<|.cd Z (λh7=>?_) (λh7=>?_)
 ·have hb:q.ac l w=false:=by simpa using h7
  have e1:q.exS l w=q.fail l 8:=NN hb;rw [lS hb,e1];refine .rg<|.mv Z<|.cs (X:=Unit) jG Z (λW s=>qZ K hq 8 (s.p1_1 [0] Z)) Z λ_ _=>.nl<|?_
  refine jE (.inr Z) rfl .nil rfl λW s=>⟨(),Jt,Z,?_⟩;exact s.p1_1 [0] rfl
 have hb:q.ac l w=true:=by simpa using h7
 have e1:q.exS l w=q.nx:=NO hb;rw [lN hb,e1];refine .sk<|?_
 refine jE (.inr Z) rfl .nil rfl λW s=>⟨(),Jt,Z,?_⟩;exact s.p1_1 [0] rfl
theorem FJ {rd dn:Bool} (K:Tkf H l tp tc) (hq:q.i<l.length) (s:St H w0 (.box b [.slice tp l.length tc,iN q.i,ro,rv,.bool rd,.bool dn,.bool bd,iN q.off,iN q.er] 102::bs) W) :
 Calls prg 113 #[.pointer (some ⟨b,0,none⟩)] W λe W'=>∃ _:Unit,(True)/\e=.returned (bV (q.nmV l))/\St H w0 (.box b [.slice tp l.length tc,iN ((q.nmS l).i),ro,rv,.bool rd,.bool dn,.bool bd,iN ((q.nmS l).off),iN ((q.nmS l).er)] 102::bs) W':=by
 have hcap:=K.rep.cap;refine fN func113 rfl ntmps113 rfl s ?_;refine .sr<|.aq Z<|.sq<|.sm Z<|.nC Z<|.fA Z jM<|.lD Z rL Hm Z<|.yw (.neq Z Z)<|.mv Z<|.e2 (λh8=>?_) (λh8=>?_)
 ·have hbad:¬ q.nmK l=true:=λe=>by have:=(IX e).1;omega
  have e1:q.nmS l=q.fail l 8:=by unfold Rq.nmS;rw [aD hbad]
  have e2:q.nmV l=[]:=by unfold Rq.nmV;rw [aD hbad]
  rw [e1,e2];refine .gG<|.gG<|.gG<|.gG<|.yw (.pickT Z Z)<|.nt<|.cT Z<|.sm Z<|.cs (X:=Unit) jG Z (λW s=>qZ K hq 8 (s.p1_1 [0] Z)) Z λ_ _=>.ns<|.az Z<|.tR<|?_
  refine y9 Z Z λW s=>?_;exact ⟨(),Jt,Z,s.p1_1 [0] rfl⟩
 have h0:q.er=0:=by omega
 refine .gy (.move Z)<|.gd Z Z<|.cs (X:=Unit) tP Z (λW s=>yL K hq  (s.p1_1 [0] Z)) Z λ_ _=>.gy (.fld Z (aB3 _ _ _))<|.gy (.neq Z Z)<|.yw (.pickF Z Z)<|.nt<|.ce Z (λh13=>?_) (λh13=>?_)
 ·have hbad:¬ q.nmK l=true:=λe=>by have:=(IX e).2;simp [this] at h13
  have e1:q.nmS l=q.fail l 8:=by unfold Rq.nmS;rw [aD hbad]
  have e2:q.nmV l=[]:=by unfold Rq.nmV;rw [aD hbad]
  rw [e1,e2];refine .sm Z<|.cs (X:=Unit) jG Z (λW s=>qZ K hq 8 (s.p1_1 [0] Z)) Z λ_ _=>.ns<|.az Z<|.tR<|?_
  refine y9 Z Z λW s=>?_;exact ⟨(),Jt,Z,s.p1_1 [0] rfl⟩
 have hk:(tkf l q.i).k=1:=aR.1 (by show (tkf l q.i).k.toNat=1;omega);have hok:q.nmK l=true:=by unfold Rq.nmK;rw [aF h0,aF hk];rfl
 have e1:q.nmS l=q.nx:=by unfold Rq.nmS;rw [aM hok]
 have e2:q.nmV l=(tkf l q.i).t:=by unfold Rq.nmV;rw [aM hok]
 rw [e1,e2];have hi:=LS K.gd.last hq hok;have hi2:q.nx.i=q.i+1:=rfl;obtain ⟨bE,oE,cE,hpE,rE,lE,mE⟩:=K.rep.elem (iL (f:=dTk .u8) hq);cases hpE;rw [ZH hq] at rE;obtain ⟨rfl,_⟩:=GR rE;refine .sk<|.tN<|.sm Z<|.nC Z<|.fA Z iE<|.lD Z bS Hm Z<|.yw (.add Z Z (c:=((q.nx.i:Nat):Int)) ((w6 (by omega)).trans (by show _=((q.i+1:Nat):Int);omega)))<|.nC Z<|.fA Z iE<|.st .head Z Z iG Z (nb Z) Z<|.nt<|.sq<|.fL 12 [(0,0),(1,0),(2,0),(3,0),(4,0),(5,0),(6,0),(7,0),(8,0),(9,0),(10,0),(11,0)]<|.mv Z<|.nC Z<|.fA Z qD<|.lD Z IK Hm Z<|.mv Z<|.nC Z<|.fA Z iE<|.lD Z bS Hm Z<|.yw (.sub Z Z (c:=((q.i:Nat):Int)) ((w6 (by omega)).trans (by omega)))<|.yw (.indexSl aL3 Z Z Z (by omega) (q:=oE+q.i * 3) Z)<|.fA Z lH<|.yw (.loadM Z cP mE (k:=1) Z Z)<|.fn (tl:=[_]) Z<|.az Z<|?_
 refine y9 Z Z λW s=>?_;exact ⟨(),Jt,Z,s.p1_1 [0] rfl⟩
end Go.Proofs.YtidclioghdbphaaGreatDoor
namespace Go.Plain
open Go.Lib

theorem digits_more (x:Nat) (h:¬ x<10):decDigits x=decDigits (x / 10)++[UInt8.ofNat (48+x % 10)]:=by
 rw [decDigits,OY h]
theorem digit_nat (d:Nat) (h:d<10):(UInt8.ofNat (48+d)).toNat=48+d:=by
 rw [BZ];omega
theorem digits_are:∀ (u:Nat) (c:UInt8),c∈decDigits u->48<=c.toNat/\c.toNat<=57:=by
 intro u;induction u using Nat.strongRecOn with
 | _ u ih =>
  intro c hc
  by_cases h:u<10
  ·rw [decDigits_one h] at hc;obtain rfl:=cO.1 hc;rw [digit_nat u h];omega
  ·rw [digits_more u h] at hc;rcases cK.1 hc with hc | hc
   ·exact ih (u / 10) (by omega) c hc
   ·obtain rfl:=cO.1 hc;rw [digit_nat (u % 10) (by omega)];omega
end Go.Plain
