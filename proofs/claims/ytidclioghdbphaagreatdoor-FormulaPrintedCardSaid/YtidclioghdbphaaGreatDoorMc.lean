/- Texts of the proof, one behind the other. -/
import Derived.Test.YtidclioghdbphaaGreatDoorMb
import Derived.ChangeKeysEq
import Derived.RangeFuncNested
import Derived.RangeFuncLeaves
import Derived.RangeFuncCalls
import Derived.OwnWalkIn
import Derived.TacticsIn
import Derived.OrdersIn
import Derived.Test.YtidclioghdbphaaGreatDoorProg
import Derived.Lib.ItoaNum
import Derived.Lib.ItoaLen
import Derived.Lib.ParseIntB
import Derived.Lib.ParseIntBCases
import Derived.Lib.IndexMore
set_option linter.all false
set_option maxRecDepth 100000
namespace Go
noncomputable abbrev prg:=Proofs.Tryz.prog
end Go
namespace Go.Sx
open Go.RowKit Go.Par
section
variable {dfs:List Deferred} {P:Program} {n:Nat} {L:Sl} {H:Hp} {w0:World} {bs:List Res} {Q:Exit->Act->World->Prop} {ops:Array Oper} {rest:List Oper} {K:Act->World->Prop}
variable {d:Option Tmp} {ty:TypeId} {pos:String} {aft:Array Edge} {v:Value} {t:Tmp} {x y:Operand} {T:TypeId}
theorem appendD {e:TypeId} {size bytes m c k:Nat} {p:Option Addr} {r:Value} {xs:List Value} {ds:List D} {bs':List Value->Value->List Res} (hT:rowN P T=some (e,size,bytes)) (hx:ev L x=some r)
 (hm:∀ news r',Upd bs (.row e size r k xs) (.row e size r' (k+m) (xs++news)) (bs' news r')) (hy:ev L y=some (.slice p m c)) (hr:Rep H (.seq size ds) [.slice p m c])
 (h63:k+m<=maxLen) (hb:(k+m) * bytes<=140737488355328) (ht:Nat.blt t n=true)
 (h:∀ news r',RepZ H size ds news->At dfs n ((t,r')::L) H w0 (bs' news r') K):At dfs n L H w0 bs (one P ops Q ⟨some t,.call ⟨.builtin .append,#[x,y],#[T,T]⟩,ty,pos,aft,none⟩ K):=by
 have hlen:=hr.len;unfold Rep at hr;obtain ⟨p',c',h1,h2,h3,h4⟩:=hr;injection h1 with h1 _
 injection h1 with e1 e2 e3
 subst e1 e3;rcases h4 with h4 | ⟨b,off,cs,rfl,hmem,hz,_⟩
 ·subst h4;obtain rfl:m=0:=e2;cases p with
  | some A=>exact appendA hT hx (hm []) hy (λW s j u e=>by simp at e) (by simp) (by simp) h63 hb ht λr' _=>h [] r' .nil
  | none =>
   obtain ⟨hu,i,z,hi,hz,hsz,hby,hzs,h0⟩:=rowN_spec hT;have e4:bs' [] r=bs:=(hm [] r).same (by rw [Al_Nat_add_zero,Al_List_append_nil]);have h5:=h [] r .nil;rw [e4] at h5;intro a W f s;refine one_plain rfl ?_;unfold Oper.wp;have hown:W.ownsRow w0.heap.size e size r k xs:=(s.own _ (hm [] r).mem).1
   have hrun:(Builtin.append_ #[T,T] ty #[r,.slice none 0 c]).run P W=.ok r W:=by
    rcases hown.2 with ⟨rfl,rfl⟩ | ⟨g,cap,cur,rfl,hbg,hgc,hnc,hcm,hcs,htake⟩
    ·simp [Builtin.append_,run_underlying hu,sizeOf,typeInfo,hi,Builtin.lenOf,Builtin.firstCells]
    ·simp [Builtin.append_,run_underlying hu,sizeOf,typeInfo,hi,Builtin.lenOf,Builtin.firstCells,hnc,storeCells]
   simp [execOp,resolve,invoke,builtin,f.ev hx,f.ev hy,hrun,Result.andThen,Oper.upon];exact h5 _ _ (f.put ht _) s
 ·exact appendA hT hx (hm cs) hy (λW s j u e=>by rw [Addr.add_lit];exact hmem.cell s.agr e) (by rw [hz.len,e2]) hz.one h63 hb ht λr' _=>h cs r' hz
theorem At.apD {e:TypeId} {size bytes m c k:Nat} {p:Option Addr} {r:Value} {xs:List Value} {ds:List D} {bs':List Value->Value->List Res} (hT:rowN P T=some (e,size,bytes)) (hx:ev L x=some r)
 (hm:∀ news r',Upd bs (.row e size r k xs) (.row e size r' (k+m) (xs++news)) (bs' news r')) (hy:ev L y=some (.slice p m c)) (hr:Rep H (.seq size ds) [.slice p m c])
 (h63:k+m<=maxLen) (hb:(k+m) * bytes<=140737488355328) (ht:Nat.blt t n=true)
 (h:∀ news r',RepZ H size ds news->At dfs n ((t,r')::L) H w0 (bs' news r') (wpList P ops Q rest)):At dfs n L H w0 bs (wpList P ops Q (⟨some t,.call ⟨.builtin .append,#[x,y],#[T,T]⟩,ty,pos,aft,none⟩::rest)):=cons (appendD hT hx hm hy hr h63 hb ht h)
theorem At.blR {ps:List (Nat × Operand)} {pv:List (Nat × Value)} {len z:Nat} {e:TypeId} {l:List Value} (hv:evp L ps=some pv) (hb:bslN P T len pv=some (e,l)) (ht:Nat.blt t n=true) (hz:l.length=len * z) (hl:len<=maxLen)
 (h:∀ b,At dfs n ((t,.slice (some ⟨b,0,none⟩) len len)::L) H w0 (.row e z (.slice (some ⟨b,0,none⟩) len len) len l::bs) (wpList P ops Q rest)):At dfs n L H w0 bs (wpList P ops Q (⟨some t,.buildSlice T len ps.toArray,ty,pos,aft,none⟩::rest)) :=
 .bl hv hb ht λb=>reSt (λ_ s=>s.boxRowZ hz hl) (h b)
theorem At.rs {e:TypeId} {size k:Nat} {r:Value} {xs:List Value} {G:Act->World->Prop} (hm:Res.row e size r k xs∈bs) (hk:0<k) (h:∀ g c,r=.slice (some ⟨g,0,none⟩) k c->At dfs n L H w0 bs G):At dfs n L H w0 bs G:=λa W f s=>by
 have ho:W.ownsRow w0.heap.size e size r k xs:=(s.own _ hm).1;rcases ho.2 with ⟨hr,h0⟩ | ⟨g,cap,cur,hr,_⟩
 ·omega
 ·exact h g cap hr a W f s
theorem Yl.loadR {e:TypeId} {size k g c off m:Nat} {xs vs:List Value} (hp:ev L x=some (.pointer (some ⟨g,off,none⟩))) (hT:aggN P T=some (some m)) (hm:Res.row e size (.slice (some ⟨g,0,none⟩) k c) k xs∈bs) (hl:vs.length=m) (hv:∀ (j:Nat) u,vs[j]? = some u->xs[off+j]? = some u) {gd:Option (Nat × Bool)}:Yl P L H w0 bs ⟨d,.load T x,ty,pos,aft,gd⟩ (.agg vs.toArray):=.of_run λa W f s=>by
 subst hl;have ho:W.ownsRow w0.heap.size e size (.slice (some ⟨g,0,none⟩) k c) k xs:=(s.own _ hm).1;obtain ⟨h1,h2⟩:=run_isAgg_yes (W:=W) hT
 have h3:(loadCells ⟨g,off,none⟩ vs.length).run P W=.ok vs.toArray W:=run_loadCells_list W _ vs λj u e=>by
  have:=World.ownsRow.cells ho (g:=g) rfl (off+j) u (hv j u e);rw [Addr.add_lit,Al_Nat_zero_add] at this;rw [Addr.add_lit];exact this
 unfold execOp;simp only [f x _ hp,Instr.loadAt,Instr.sureAddr,loadVar,Sem.run_bind,Sem.run_pure,Result.andThen,h1,h2,Al_if_true,h3]
theorem Yl.fld {i:Nat} {u:Value} (hx:ev L x=some v) (hr:∀ W,(Instr.field T v i).run P W=.ok u W) {gd:Option (Nat × Bool)}:Yl P L H w0 bs ⟨d,.field T x i,ty,pos,aft,gd⟩ u:=.of_run λa W f s=>by
 unfold execOp;simp only [f x _ hx,Sem.run_bind,hr W,Result.andThen,Sem.run_pure]
theorem setsL_app:∀ (vs l more:List Value) (off:Nat),off+vs.length<=l.length->setsL (l++more) off vs=setsL l off vs++more
 | [],l,more,off,_=>rfl
 | v::r,l,more,off,h=>by
  unfold setsL;rw [Al_List_length_cons] at h;rw [List.set_append_left _ _ (by omega)];exact setsL_app r (l.set off v) more (off+1) (by rw [List.length_set];omega)
theorem setsL_right:∀ (vs p l:List Value) (off:Nat),setsL (p++l) (p.length+off) vs=p++setsL l off vs
 | [],p,l,off=>rfl
 | v::r,p,l,off=>by
  unfold setsL;rw [Al_List_set_append_right _ _ (by omega),show p.length+off - p.length=off by omega,Al_Nat_add_assoc];exact setsL_right r p (l.set off v) (off+1)
theorem RepZ.put {H:Hp} {z:Nat} {d:D} {vs:List Value} (hd:Rep H d vs) (hz:vs.length=z):∀ {ds:List D} {l:List Value} {i:Nat},RepZ H z ds l->i<ds.length->RepZ H z (ds.set i d) (setsL l (i * z) vs)
 | [],l,i,_,hi=>by simp at hi
 | d0::r,l,0,h,_=>by
  unfold RepZ at h;obtain ⟨x,y,rfl,h1,h2,h3⟩:=h;rw [Al_List_set_cons_zero,Al_Nat_zero_mul,setsL_app _ _ _ _ (by omega)];have:=setsL_all vs [] x (by omega);simp only [Al_List_nil_append,Al_List_length_nil] at this;rw [this];unfold RepZ;exact ⟨vs,y,Z,hz,hd,h3⟩
 | d0::r,l,i+1,h,hi=>by
  unfold RepZ at h;obtain ⟨x,y,rfl,h1,h2,h3⟩:=h;have:=RepZ.put hd hz (i:=i) h3 (by simpa using hi);rw [List.set_cons_succ,show (i+1) * z=x.length+i * z by rw [h1,Al_Nat_succ_mul];omega,setsL_right];unfold RepZ;exact ⟨x,_,Z,h1,h2,this⟩
theorem setsL_len:∀ (vs l:List Value) (off:Nat),(setsL l off vs).length=l.length
 | [],l,off=>rfl
 | v::r,l,off=>by unfold setsL;rw [setsL_len r,List.length_set]
variable {N hn i:Nat} {pa:List (Nat × Oper × Value)} {E:Sl->Hp->List Res->Prop} {q:PlT} {fr:List (Nat × Nat × Oper)}
theorem FlowP.apD {e:TypeId} {size bytes m c k:Nat} {p:Option Addr} {r:Value} {xs:List Value} {ds:List D} {bs':List Value->Value->List Res} (hT:rowN P T=some (e,size,bytes)) (hx:ev L x=some r)
 (hm:∀ news r',Upd bs (.row e size r k xs) (.row e size r' (k+m) (xs++news)) (bs' news r')) (hy:ev L y=some (.slice p m c)) (hr:Rep H (.seq size ds) [.slice p m c])
 (h63:k+m<=maxLen) (hb:(k+m) * bytes<=140737488355328) (ht:Nat.blt t N=true)
 (hr2:∀ news r',RedoP dfs P ops hn w0 N L H (bs' news r') i pa) (h:∀ news p c,RepZ H size ds news->FlowP dfs P ops hn w0 N E fr pa ((t,.slice p (k+m) c)::L) H (bs' news (.slice p (k+m) c))) :
 FlowP dfs P ops hn w0 N E ((i,3,⟨some t,.call ⟨.builtin .append,#[x,y],#[T,T]⟩,ty,pos,aft,none⟩)::fr) pa L H bs :=
 ⟨blt_of ht,appendD hT hx hm hy hr h63 hb ht λnews r' hz=>At.ra (hm news r').new λp c e=>by subst e;exact FlowP.into (.inr<|.inr<|hr2 _ _) (h news p c hz)⟩
end
section
variable {dfs:List Deferred} {P:Program}
variable {n:Nat} {L:Sl} {H:Hp} {w0:World} {bs:List Res} {d:Option Tmp} {ty:TypeId} {pos:String} {aft:Array Edge} {g:Option (Nat × Bool)} {x y:Operand} {T T':TypeId}
end
variable {H:Hp} {z n c:Nat}
theorem Rep.cells {ds:List D} {p:Option Addr} (h:Rep H (.seq z ds) [.slice p n c]):∃ cf:Nat->List Value,∀ i d,ds[i]? = some d->∃ b off,p=some ⟨b,off,none⟩/\Rep H d (cf i)/\(cf i).length=z/\MemAt H b (off+i * z) (cf i):=by
 classical
 refine ⟨λi=>if h:∃ cs,∀ d,ds[i]? = some d->∃ b off,p=some ⟨b,off,none⟩/\Rep H d cs/\cs.length=z/\MemAt H b (off+i * z) cs then Classical.choose h else [],λi d hd=>?_⟩
 have ex:∃ cs,∀ d,ds[i]? = some d->∃ b off,p=some ⟨b,off,none⟩/\Rep H d cs/\cs.length=z/\MemAt H b (off+i * z) cs:=by
  obtain ⟨b,off,cs,h1,h2,h3,h4⟩:=h.elem hd;refine ⟨cs,λd' hd'=>?_⟩;rw [hd] at hd';injection hd' with e
  subst e;exact ⟨b,off,h1,h2,h3,h4⟩
 simp only [Al_dif_pos ex];exact Classical.choose_spec ex d hd
variable {l:List Value} {k:Nat}
theorem subL {vs:List Value} (h:(l.drop k).take vs.length=vs):∀ (j:Nat) u,vs[j]? = some u->l[k+j]? = some u:=λj u hj=>by
 rw [<-h,List.getElem?_take] at hj
 split at hj
 ·rw [List.getElem?_drop] at hj;exact hj
 ·cases hj
section
variable {dfs:List Deferred} {P:Program} {n:Nat} {L:Sl} {H:Hp} {w0:World} {bs:List Res} {Q:Exit->Act->World->Prop} {ops:Array Oper} {rest:List Oper} {K:Act->World->Prop}
variable {d:Option Tmp} {ty:TypeId} {pos:String} {aft:Array Edge} {v:Value} {t:Tmp} {x:Operand}
theorem Yl.mkF {fn:Fn} {fs cs:List Operand} {fi ca:List Value} {g:Option (Nat × Bool)} (h1:evs L fs=some fi) (h2:evs L cs=some ca):Yl P L H w0 bs ⟨d,.makeFunc fn fs.toArray cs.toArray,ty,pos,aft,g⟩ (.func fn fi.toArray ca.toArray):=.of_run λa W f _=>by
 unfold execOp;simp [evs_map f h1,evs_map f h2,Instr.makeFunc]
theorem Fr.know {a:Act} {p:Value} (f:Fr dfs n L a) (h:look L t=some p):Fr dfs n ((t,p)::L) a:=⟨f.size,f.defers,λs u e=>by
 unfold look at e;cases hb:Nat.beq t s
 ·rw [hb,cond_false] at e;exact f.slot s u e
 ·rw [hb,Al_cond_true] at e;rw [<-Al_Nat_eq_of_beq_eq_true hb,<-Al_Option_some_inj e];exact f.slot t p h⟩
theorem At.cr {y z:Code} {p:Bool} (hc:look L t=some (.bool p)) (h1:p=true->At dfs n ((t,.bool true)::L) H w0 bs (y.wp P Q)) (h2:p=false->At dfs n ((t,.bool false)::L) H w0 bs (z.wp P Q)):At dfs n L H w0 bs ((Code.cond (.tmp t) y z).wp P Q) :=
 At.cd (t:=p) (by exact hc) (λe a W f s=>h1 e a W (f.know (e ▸ hc)) s) (λe a W f s=>h2 e a W (f.know (e ▸ hc)) s)
/-! ### Stores in a drawn region's head -/
section
variable {N hn i:Nat} {pa:List (Nat × Oper × Value)} {E:Sl->Hp->List Res->Prop} {r:List (Nat × Nat × Oper)} {T:TypeId} {y:Operand} {bs':List Res}
theorem FlowP.into0 (hr:RedoP dfs P ops hn w0 N L H bs' i pa) (h:FlowP dfs P ops hn w0 N E r pa L H bs') :
 At dfs N L H w0 bs' (λa' W'=>∃ v H' bs'',Fr dfs N (putL none v L) a'/\St H' w0 bs'' W'/\(2=1\/(∀ W,St H' w0 bs'' W->St H w0 bs W)\/RedoP dfs P ops hn w0 N L H' bs'' i pa)/\FlowP dfs P ops hn w0 N E r pa (putL none v L) H' bs''):=λ_ _ f s=>⟨undef,H,bs',f,s,.inr (.inr hr),h⟩
theorem FlowP.sW {b:Nat} {l vs:List Value} {t':TypeId} (hm:Upd bs (.box b l t') (.box b vs t') bs') (hp:ev L x=some (.pointer (some ⟨b,0,none⟩))) (hv:ev L y=some (.agg vs.toArray)) (hT:sizeN P T=some vs.length) (h1:∀ u∈vs,u.oneCell'=true) (ho:l.length=vs.length)
 (hr:RedoP dfs P ops hn w0 N L H bs' i pa) (h:FlowP dfs P ops hn w0 N E r pa L H bs'):FlowP dfs P ops hn w0 N E ((i,3,⟨none,.store T x y,ty,pos,aft,none⟩)::r) pa L H bs :=
 ⟨λ_ e=>(by cases e),storeW hp hv hT h1 hm ho (into0 hr h)⟩
theorem FlowP.st {b off:Nat} {l l':List Value} {t':TypeId} (hm:Upd bs (.box b l t') (.box b l' t') bs') (hp:ev L x=some (.pointer (some ⟨b,off,none⟩))) (hv:ev L y=some v) (hT:sizeN P T=some 1) (h1:v.oneCell'=true) (ho:Nat.blt off l.length=true) (hl:l.set off v=l')
 (hr:RedoP dfs P ops hn w0 N L H bs' i pa) (h:FlowP dfs P ops hn w0 N E r pa L H bs'):FlowP dfs P ops hn w0 N E ((i,3,⟨none,.store T x y,ty,pos,aft,none⟩)::r) pa L H bs :=
 ⟨λ_ e=>(by cases e),store hp hv hT h1 hm (by simpa [Al_Nat_blt_eq] using ho) hl (into0 hr h)⟩
end
section
variable {N hn i k:Nat} {pa:List (Nat × Oper × Value)} {E:Sl->Hp->List Res->Prop} {r:PlT} {T:TypeId} {y:Operand} {bs':List Res}
theorem AltT.blF {ps:List (Nat × Operand)} {pv:List (Nat × Value)} {len:Nat} {e:TypeId} {l:List Value} (hv:evp L ps=some pv) (hb:bslN P T len pv=some (e,l)) (ht:Nat.blt t N=true)
 (h:∀ b H1,HUp w0 H H1->MemN H1 b 0 l->FlowT dfs P ops hn w0 N E r pa ((t,.slice (some ⟨b,0,none⟩) len len)::L) H1 bs):AltT dfs P ops hn w0 N E i k ⟨some t,.buildSlice T len ps.toArray,ty,pos,aft,none⟩ r pa L H bs :=
 ⟨blt_of ht,buildSlice hv hb ht λb=>freezeBoxN λH1 u m=>AltT.into (.inr<|.inl λ_ s=>s.weakH u.up) (h b H1 u m)⟩
theorem AltT.into0 (hr:RedoP dfs P ops hn w0 N L H bs' i pa) (h:FlowT dfs P ops hn w0 N E r pa L H bs') :
 At dfs N L H w0 bs' (λa' W'=>∃ v H' bs'',Fr dfs N (putL none v L) a'/\St H' w0 bs'' W'/\(k=1\/(∀ W,St H' w0 bs'' W->St H w0 bs W)\/RedoP dfs P ops hn w0 N L H' bs'' i pa)/\FlowT dfs P ops hn w0 N E r pa (putL none v L) H' bs''):=λ_ _ f s=>⟨undef,H,bs',f,s,.inr (.inr hr),h⟩
theorem AltT.sW {b:Nat} {l vs:List Value} {t':TypeId} (hm:Upd bs (.box b l t') (.box b vs t') bs') (hp:ev L x=some (.pointer (some ⟨b,0,none⟩))) (hv:ev L y=some (.agg vs.toArray)) (hT:sizeN P T=some vs.length) (h1:∀ u∈vs,u.oneCell'=true) (ho:l.length=vs.length)
 (hr:RedoP dfs P ops hn w0 N L H bs' i pa) (h:FlowT dfs P ops hn w0 N E r pa L H bs'):AltT dfs P ops hn w0 N E i k ⟨none,.store T x y,ty,pos,aft,none⟩ r pa L H bs :=
 ⟨λ_ e=>(by cases e),storeW hp hv hT h1 hm ho (AltT.into0 hr h)⟩
end
end
section
variable {dfs:List Deferred} {P:Program} {L:Sl} {H:Hp} {w0:World} {bs:List Res} {ops:Array Oper}
variable {ty:TypeId} {pos:String} {aft:Array Edge} {t:Tmp}
variable {N hn i k:Nat} {pa:List (Nat × Oper × Value)} {E:Sl->Hp->List Res->Prop} {r:List (Nat × Nat × Oper)} {T:TypeId}
theorem FlowP.blF {ps:List (Nat × Operand)} {pv:List (Nat × Value)} {len:Nat} {e:TypeId} {l:List Value} (hv:evp L ps=some pv) (hb:bslN P T len pv=some (e,l)) (ht:Nat.blt t N=true)
 (h:∀ b H1,HUp w0 H H1->MemN H1 b 0 l->FlowP dfs P ops hn w0 N E r pa ((t,.slice (some ⟨b,0,none⟩) len len)::L) H1 bs):FlowP dfs P ops hn w0 N E ((i,k+1,⟨some t,.buildSlice T len ps.toArray,ty,pos,aft,none⟩)::r) pa L H bs :=
 ⟨blt_of ht,buildSlice hv hb ht λb=>freezeBoxN λH1 u m=>FlowP.into (.inr<|.inl λ_ s=>s.weakH u.up) (h b H1 u m)⟩
end
class FW (F:Fence):Prop where
 fn:∀ f,F.fn f
 depth:F.depth=none
 calls:∀ {n:Nat} {P:Program} {f:FuncId} {args:Array Value} {w:World} {R:Ending->World->Prop},Calls P f args w R->CallsIn F n P f args w R
 rows:∀ {n:Nat} {P:Program} {r:String} {args:Array Value} {w:World} {R:Value->World->Prop},Rows P r args w R->RowsIn F n P r args w R
instance:FW Fence.wide:=⟨λ_=>trivial,Z,λh=>callsIn_wide.2 h,λh c cs _=>let ⟨v,w',r,s⟩:=h c cs;⟨v,w',r,stepsIn_wide.2 s⟩⟩
instance {l:Nat}:FW (Fence.wide.inRound l):=⟨λ_=>trivial,Z,λh=>CallsIn.inRound l (callsIn_wide.2 h),λh c cs _=>let ⟨v,w',r,s⟩:=h c cs;⟨v,w',r,stepsIn_wide.2 s⟩⟩
section
variable {dfs:List Deferred} {P:Program} {n m:Nat} {L:Sl} {H:Hp} {w0:World} {bs:List Res} {Q:Exit->Act->World->Prop} {ops:Array Oper} {rest:List Oper} {K:Act->World->Prop} {F:Fence}
variable {d:Option Tmp} {ty:TypeId} {pos:String} {aft:Array Edge} {g:Option (Nat × Bool)} {v:Value} {t:Tmp} {op:Op} {x y:Operand} {T:TypeId}
theorem wpIn_of_wp [hF:FW F] {o:Oper} {a:Act} {w:World} (hd:∀ c,o.op≠.defer c) (h:o.wp P a w K (λ_ _ _=>False)):o.wpIn F m P a w K Q:=by
 unfold Oper.wpIn;refine ⟨λf _=>hF.fn f,?_⟩;rw [Oper.semAt_plain F _ _ hd];unfold Oper.wp at h;generalize (execOp a.eval o).run P w=r at *;cases r with
 | ok z w' =>
  cases z <;> simp only [Oper.upon] at h <;> simp only [Oper.uponIn]
  case value u=>exact h
  case skip=>exact h
  case defer d=>exact h
  case enter f args =>
   refine ⟨λe=>(by rw [hF.depth] at e;cases e),hF.calls (h.mono ?_)⟩;intro e w'' q;cases e with
   | returned v=>exact q
   | panicked c=>exact q.elim
   | outgrown=>obtain ⟨_,_,q⟩:=q;exact q.elim
  case row rw args=>exact ⟨λe=>(by rw [hF.depth] at e;cases e),hF.rows h⟩
 | halt z w' =>
  cases z <;> simp only [Oper.upon] at h
theorem consI [hF:FW F] {o:Oper} (hd:∀ c,o.op≠.defer c) (h:At dfs n L H w0 bs (one P ops (λ_ _ _=>False) o (wpListIn F m P ops Q rest))):At dfs n L H w0 bs (wpListIn F m P ops Q (o::rest)):=by
 intro a W f s;have h1:=h a W f s;unfold one at h1;unfold wpListIn;cases hw:Region.wanted o (yielded ops a.tmps) with
 | true =>
  rw [hw] at h1;simp only [Al_if_true] at h1|-;rcases h1 with h1 | ⟨_,_,_,h1⟩
  ·exact wpIn_of_wp hd h1
  ·exact h1.elim
 | false =>
  rw [hw] at h1;simp only [Al_Bool_false_eq_true,Al_if_false] at h1|-;exact ⟨λf _=>hF.fn f,h1⟩
theorem At.rgI {id:Nat} {l:List Oper} (h:At dfs n L H w0 bs (wpListIn F m P l.toArray Q l)):At dfs n L H w0 bs ((Code.region id l.toArray false).wpIn F m P Q):=λa W f s=>wpIn_region_lit (h a W f s)
theorem At.rgW {id:Nat} {l:List Oper} (m:Nat) (h:At dfs n L H w0 bs (wpListIn Fence.wide m P l.toArray Q l)):At dfs n L H w0 bs ((Code.region id l.toArray false).wp P Q):=λa W f s=>wpIn_wide.1 (wpIn_region_lit (h a W f s))
theorem At.nlI (h:At dfs n L H w0 bs (Q .normal)):At dfs n L H w0 bs (wpListIn F m P ops Q []):=h
theorem At.yvI [FW F] (hy:Yl P L H w0 bs ⟨some t,op,ty,pos,aft,none⟩ v) (ht:Nat.blt t n=true) (h:At dfs n ((t,v)::L) H w0 bs (wpListIn F m P ops Q rest)) (hd:∀ c,op≠.defer c:=by intro c e;cases e):At dfs n L H w0 bs (wpListIn F m P ops Q (⟨some t,op,ty,pos,aft,none⟩::rest)):=consI hd (yl hy ht h)
theorem At.mI [FW F] (hx:ev L x=some v) (ht:Nat.blt t n=true) (h:At dfs n ((t,v)::L) H w0 bs (wpListIn F m P ops Q rest)):At dfs n L H w0 bs (wpListIn F m P ops Q (⟨some t,.move x,ty,pos,aft,none⟩::rest)):=.yvI (.move hx) ht h
theorem At.alI [FW F] {l:List Value} (hz:zeroN P T=some l) (ht:Nat.blt t n=true) (h:∀ b,At dfs n ((t,.pointer (some ⟨b,0,none⟩))::L) H w0 (.box b l T::bs) (wpListIn F m P ops Q rest)):At dfs n L H w0 bs (wpListIn F m P ops Q (⟨some t,.alloc T,ty,pos,aft,none⟩::rest)):=consI (by intro c e;cases e) (alloc hz ht h)
theorem At.sWI [FW F] {b:Nat} {l vs:List Value} {t':TypeId} {bs':List Res} (hm:Upd bs (.box b l t') (.box b vs t') bs') (hp:ev L x=some (.pointer (some ⟨b,0,none⟩))) (hv:ev L y=some (.agg vs.toArray)) (hT:sizeN P T=some vs.length) (h1:∀ u∈vs,u.oneCell'=true) (ho:l.length=vs.length) (h:At dfs n L H w0 bs' (wpListIn F m P ops Q rest)) :
 At dfs n L H w0 bs (wpListIn F m P ops Q (⟨none,.store T x y,ty,pos,aft,none⟩::rest)):=consI (by intro c e;cases e) (storeW hp hv hT h1 hm ho h)
end
/-! ### The caller's side of a range over a function -/
section
variable {H:Hp} {w0 W W':World} {bs:List Res}
theorem St.beside {row:Option Nat} (s:St H w0 bs W) (g:W.grownBy W' row) (hr:∀ r,row=some r->w0.heap.size<=r/\H r=none/\∀ x∈bs,x.blk≠some r):St H w0 bs W':=by
 have hb:∀ k,k<W.heap.size->(∀ r,row=some r->k≠r)->W'.heap[k]? = W.heap[k]? := λk hk hn=>g.block k hk (λe=>hn k e.symm rfl);refine ⟨?_,⟨?_,Al_Nat_le_trans s.agr.lo g.size⟩,?_,s.apart,s.lo⟩
 ·have e:=s.ext;unfold Ext at e|-;refine ⟨g.os.trans e.os,g.tape.trans e.tape,g.output.trans e.output,Al_Nat_le_trans e.size g.size,λk hk=>?_⟩;exact (hb k (Al_Nat_lt_of_lt_of_le hk e.size) (λr e' h=>by have:=(hr r e').1;omega)).trans (e.block k hk)
 ·intro b o e;have:=s.agr b o e;rw [hb b (block_lt this) (λr e' h=>by subst h;rw [(hr b e').2.1] at e;cases e)];exact this
 ·intro x hx;exact ⟨(s.own x hx).1.keep g.size (λb e=>hb b ((s.own x hx).1.lt e).2 (λr e' h=>by subst h;exact (hr b e').2.2 x hx e)),(s.own x hx).2⟩
def nobj:List Res->Bool
 | []=>true
 | .box ..::r=>nobj r
 | .row ..::r=>nobj r
 | _::_=>false
theorem nobj_cells:∀ {bs:List Res},nobj bs=true->∀ x∈bs,∀ base,x.ok base W->∀ b,x.blk=some b->∃ o,W.heap[b]? = some o/\o.isCells=true
 | [],_,x,hx,_,_,_,_=>by cases hx
 | .box c l t::r,h,x,hx,base,ho,b,e=>by
  rcases Al_List_mem_cons.1 hx with rfl | hx
  ·obtain rfl:c=b:=Al_Option_some_inj e;exact ⟨_,ho.2,Z⟩
  ·exact nobj_cells (bs:=r) h x hx base ho b e
 | .row et size v n xs::r,h,x,hx,base,ho,b,e=>by
  rcases Al_List_mem_cons.1 hx with rfl | hx
  ·obtain ⟨_,⟨rfl,_⟩ | ⟨g,cap,cur,rfl,hg,hc,_⟩⟩:=ho
   ·cases e
   ·obtain rfl:g=b:=Al_Option_some_inj e;exact ⟨_,hc,Z⟩
  ·exact nobj_cells (bs:=r) h x hx base ho b e
 | .obj ..::_,h,_,_,_,_,_,_=>by cases h
 | .big ..::_,h,_,_,_,_,_,_=>by cases h
theorem nobj_ne (s:St H w0 bs W) (h:nobj bs=true) {r:Nat} {o:Obj} (ho:W.heap[r]? = some o) (hc:o.isCells=false):∀ x∈bs,x.blk≠some r:=by
 intro x hx e;obtain ⟨o',h1,h2⟩:=nobj_cells h x hx _ (s.own x hx).1 r e;rw [ho] at h1;cases h1;rw [hc] at h2;cases h2
theorem ownSt {α Z:Type} {B:Nat} {C:List α->Z->Prop} {rs:Z->List Res} (hB:w0.heap.size<=B) (hH:∀ r,B<=r->H r=none) (hn:∀ pre z,C pre z->nobj (rs z)=true) :
 OwnFrom B (λpre W=>∃ z,C pre z/\St H w0 (rs z) W):=by
 rintro pre X Y row ⟨z,hz,s⟩ hg hr
 exact ⟨z,hz,s.beside hg λr e=>by
  obtain ⟨h1,o,h2,h3⟩:=hr r e;exact ⟨Al_Nat_le_trans hB h1,hH r h1,nobj_ne s (hn _ _ hz) h2 h3⟩⟩
theorem St.less {H':Hp} (s:St H' w0 bs W) (u:Up H H'):St H w0 bs W:=⟨s.ext,⟨λb o e=>s.agr b o (u b o e),u.lo ▸ s.agr.lo⟩,λx hx=>⟨(s.own x hx).1,λb e=>by
 cases h:H b with
 | none=>rfl
 | some o=>have:=(s.own x hx).2 b e;rw [u b o h] at this;cases this⟩,s.apart,u.lo ▸ s.lo⟩
theorem St.front {tl:List Res} (s:St H w0 (bs++tl) W):St H w0 bs W:=⟨s.ext,s.agr,λx hx=>s.own x (Al_List_mem_append_left _ hx),(Al_List_pairwise_append.1 s.apart).1,s.lo⟩
def tailOf (B:Nat) (W:World):List Res:=.big W.heap.size::(List.range' B (W.heap.size - B)).filterMap λk=>match W.heap[k]? with
 | some o=>if o.isCells then none else some (.obj k o)
 | none=>none
theorem mem_tailOf {B:Nat} {x:Res} (h:x∈tailOf B W):x=.big W.heap.size\/∃ k o,x=.obj k o/\W.heap[k]? = some o/\o.isCells=false/\B<=k:=by
 rcases Al_List_mem_cons.1 h with rfl | h
 ·exact .inl Z
 ·obtain ⟨k,hk,he⟩:=Al_List_mem_filterMap.1 h;cases ho:W.heap[k]? with
  | none=>rw [ho] at he;cases he
  | some o =>
   rw [ho] at he;cases hc:o.isCells with
   | true=>simp [hc] at he
   | false=>exact .inr ⟨k,o,by simpa [hc] using he.symm,ho,hc,by have:=List.mem_range'_1.1 hk;omega⟩
theorem St.tailOf {B:Nat} (s:St H w0 bs W) (hn:nobj bs=true) (hB:w0.heap.size<=B) (hH:∀ r,B<=r->H r=none):St H w0 (bs++tailOf B W) W:=by
 refine ⟨s.ext,s.agr,?_,Al_List_pairwise_append.2 ⟨s.apart,?_,?_⟩,s.lo⟩
 ·intro x hx;rcases Al_List_mem_append.1 hx with hx | hx
  ·exact s.own x hx
  ·rcases mem_tailOf hx with rfl | ⟨k,o,rfl,ho,hc,hk⟩
   ·exact ⟨Al_Nat_le_refl _,λb e=>by cases e⟩
   ·exact ⟨⟨Al_Nat_le_trans hB hk,ho⟩,λb e=>by obtain rfl:k=b:=Al_Option_some_inj e;exact hH k hk⟩
 ·refine .cons (λy _ b e=>by cases e) ?_;refine List.Pairwise.filterMap _ ?_ (List.pairwise_lt_range' (s:=B) (n:=W.heap.size - B));intro k j hlt x hx y hy b e e'
  have key:∀ (m:Nat) (u:Res),(match W.heap[m]? with | some o=>if o.isCells then none else some (Res.obj m o) | none=>none)=some u->u.blk=some m:=by
   intro m u hu;cases ho:W.heap[m]? with
   | none=>rw [ho] at hu;cases hu
   | some o =>
    rw [ho] at hu;cases hc:o.isCells with
    | true=>simp [hc] at hu
    | false =>
     simp [hc] at hu;rw [<-hu];rfl
  have h1:=key k x hx;have h2:=key j y hy;rw [h1] at e;rw [h2] at e';cases e;cases e';omega
 ·intro x hx y hy b e e';rcases mem_tailOf hy with rfl | ⟨k,o,rfl,ho,hc,hk⟩
  ·cases e'
  ·obtain rfl:k=b:=Al_Option_some_inj e';exact nobj_ne s hn ho hc x hx e
theorem St.keepsFrom {B:Nat} (s:St H w0 (bs++Sx.tailOf B W) W'):KeepsFrom B W W':=by
 refine ⟨?_,λk o hk ho hc=>?_⟩
 ·exact (s.own _ (Al_List_mem_append_right _ (Al_List_mem_cons_self ..))).1
 ·have hm:Res.obj k o∈Sx.tailOf B W:=by
   refine Al_List_mem_cons_of_mem _ (Al_List_mem_filterMap.2 ⟨k,List.mem_range'_1.2 ?_,?_⟩)
   ·have:=block_lt ho;omega
   ·rw [ho];simp [hc]
  exact ((s.own _ (Al_List_mem_append_right _ hm)).1).2
def KpH (H:Hp) (W W':World):Prop:=Agr H W->Agr H W'
def rE {α Z:Type} (C:List α->Z->Prop) (rs:Z->List Res) (H:Hp) (w0:World) (tl:List Res) (xs:List α):Exit->Act->World->Prop
 | .normal,_,W=>∃ z,C xs z/\St H w0 (rs z++tl) W
 | _,_,_=>False
theorem At.rE {α Z:Type} {C:List α->Z->Prop} {rs:Z->List Res} {tl:List Res} {xs:List α} {dfs:List Deferred} {n:Nat} {L:Sl} {H':Hp} (z:Z) (u:Up H H') (hz:C xs z) (hb:bs=rs z++tl) :
 At dfs n L H' w0 bs (Sx.rE C rs H w0 tl xs .normal):=λa W f s=>⟨z,hz,by rw [<-hb];exact s.less u⟩
end
/-! ### A function with a range over a function in it -/
section
variable {P:Program} {n:Nat} {L:Sl} {H:Hp} {w0:World} {bs bs':List Res} {fn:Func} {R:Ending->World->Prop} {v:Value} {D:Nat}
theorem enterM {f:FuncId} {c:Code} {args:List Value} {w:World} (hf:P.funcs[f]? = some fn) (hb:fn.body=some c) (hn:fn.ntmps=n) (hl:Nat.ble args.length n=true) (hA:Agr H w)
 (h:At [] n (slots 0 args) H w [] (c.wp P (bodyPostM Fence.wide 9 P fn R))):Calls P f args.toArray w R:=by
 refine callsIn_wide.1 (callsIn_of_wp_marks (n:=9) hf hb trivial (wpIn_wide.2 (h _ _ ⟨?_,Z,?_⟩ (.start hA))))
 ·have:args.length<=n:=Al_Nat_le_of_ble_eq_true hl;simp [hn];omega
 ·intro t v e;obtain ⟨_,h2⟩:=slots_at args 0 t v e;rw [Al_Nat_sub_zero] at h2;have hlt:t<args.length:=(List.getElem?_eq_some_iff.1 h2).1;rw [Al_Array_getD_eq_getD_getElem?];rw [Array.getElem?_append_left (by simpa using hlt)];simp [h2]
theorem St.shut {W:World} (s:St H w0 bs W) (u:Upd bs (.obj D (.deferred (some []))) (.obj D (.deferred none)) bs'):St H w0 bs' (W.putObj D (.deferred none)):=by
 obtain ⟨h1,h2⟩:=(s.own _ u.mem).1;have hlt:=block_lt h2;have e:=s.ext;refine s.upd u ?_ (by simp [World.putObj]) ?_ ⟨h1,World.putObj_heap_same hlt⟩ (λb e=>.inl e)
 ·unfold Ext at e|-;exact e.grown (grownBy_putObj' W D _) (by omega) (λk e=>by cases e;exact h1)
 ·intro b _ hne;exact World.putObj_heap_other (λh=>hne (by rw [h];rfl))
theorem retM {e:Exit} (he:e=.ret\/e=.normal) (u:Upd bs (.obj D (.deferred (some []))) (.obj D (.deferred none)) bs') (h:At [] n L H w0 bs' (bodyPost P fn R .ret)) :
 At [{ target:=.collected D,args:=#[] }] n L H w0 bs (bodyPostM Fence.wide 9 P fn R e):=by
 intro a W f s;obtain ⟨_,v,h2,h3⟩:=h { a with defers:=[] } _ ⟨f.size,Z,f.slot⟩ (s.shut u)
 have h4:LeavesInM Fence.wide 9 P fn a.tmps R a.defers .returning W:=by
  rw [f.defers];exact ⟨(by intro e;cases e),.inl ⟨D,_,Z,run_takeDeferred (s.own _ u.mem).1.2,v,h2,h3⟩⟩
 rcases he with rfl | rfl <;> exact h4
end
/-! ### The iterator's side -/
section
variable {dfs:List Deferred} {P:Program} {n m l:Nat} {L:Sl} {H:Hp} {w0:World} {bs:List Res} {Q:Exit->Act->World->Prop} {ops:Array Oper} {rest:List Oper} {F:Fence}
variable {d:Option Tmp} {ty:TypeId} {pos:String} {aft:Array Edge} {g:Option (Nat × Bool)} {t:Tmp} {x:Operand} {xs:List Operand} {vs:List Value} {ats:Array TypeId}
theorem Ext.grownBy {W W':World} (e:Ext W W'):W.grownBy W' none:=by
 unfold Ext at e;exact ⟨e.os,e.tape,e.output,e.size,λk hk _=>e.block k hk⟩
theorem AbidesFrom.ext {β:Type} {B:Nat} {J:β->World->Prop} (h:AbidesFrom B J) {s:β} {W W':World} (hs:J s W) (e:Ext W W'):J s W':=h s W W' none hs (Ext.grownBy e) (λr h=>by cases h)
theorem exec_yield {a:Act} {W W':World} {r:Next} (f0:∀ x u,ev L x=some u->a.eval x=u) (hx:ev L x=some (.func (.yield l) #[] #[])) (hv:evs L xs=some vs) (hr:(Instr.yield l vs.toArray).run P W=.ok r W') :
 (execOp a.eval ⟨d,.call ⟨.value x,xs.toArray,ats⟩,ty,pos,aft,g⟩).run P W=.ok r W':=by
 unfold execOp;simp [resolve,Deferred.ofValue,f0 _ _ hx,invoke,evs_map f0 hv,hr]
def noH:Hp:=⟨λ_=>none,0⟩
theorem At.yd [hF:FW F] {J Jx:World->Prop} (hx:ev L x=some (.func (.yield l) #[] #[])) (hv:evs L xs=some vs) (ht:Nat.blt t n=true)
 (hy:∀ W,St H w0 bs W->YieldAt F (m - 1) P l vs.toArray W λe W'=>(e=.returned (.bool true)/\J W'/\KpH H W W')\/(e=.returned (.bool false)/\Jx W'))
 (h1:∀ w1,J w1->At dfs n ((t,.bool true)::L) H w1 [] (wpListIn F m P ops Q rest))
 (h2:∀ w1,Jx w1->At dfs n ((t,.bool false)::L) noH w1 [] (wpListIn F m P ops Q rest)) :
 At dfs n L H w0 bs (wpListIn F m P ops Q (⟨some t,.call ⟨.value x,xs.toArray,ats⟩,ty,pos,aft,none⟩::rest)):=by
 intro a W f s;unfold wpListIn;rw [Al_if_pos (by simp [Region.wanted])];unfold Oper.wpIn;refine ⟨λf _=>hF.fn f,?_⟩;rw [Oper.semAt_plain F _ _ (by intro c e;cases e)];obtain ⟨fn,tmps,assign,body,hr,hR⟩:=hy W s;rw [exec_yield (λx u e=>f.ev e) hx hv hr];refine ⟨λe=>(by rw [hF.depth] at e;cases e),hR.mono ?_⟩;rintro e W' (⟨rfl,hj,hk⟩ | ⟨rfl,hj⟩)
 ·exact h1 W' hj _ _ (f.put ht _) (.start (hk s.agr))
 ·exact h2 W' hj _ _ (f.put ht _) (.start ⟨λb o e=>(by cases e),Al_Nat_zero_le _⟩)
theorem At.lj {c:Code} {X:Type} (L':X->Sl) (J:X->World->Prop) (C:X->Prop) (μ:X->Nat) (x0:X) (hC:C x0) (hL:Sub L (L' x0)) (hJ:J x0 w0)
 (round:∀ x w1,C x->J x w1->At dfs n (L' x) H w1 [] (c.wp P (Exit.then (λa W=>∃ y w2,(C y/\μ y<μ x)/\J y w2/\Fr dfs n (L' y) a/\St H w2 [] W) Q))) :
 At dfs n L H w0 [] ((Code.loop c).wp P Q):=by
 intro a W f s;refine wp_loop_ghost (λm a W=>∃ x w1,μ x=m/\C x/\J x w1/\Fr dfs n (L' x) a/\St H w1 [] W) _ ⟨x0,w0,Z,hC,hJ,f.sub hL,s⟩ ?_;rintro m a W ⟨x,w1,rfl,hx,hj,f,s⟩;refine wp_mono (round x w1 hx hj a W f s) λe a' W' q=>?_;cases e <;> first | exact q | skip
 obtain ⟨y,w2,⟨hy,hlt⟩,hj,fy,sy⟩:=q;exact ⟨_,hlt,y,w2,Z,hy,hj,fy,sy⟩
theorem At.aj {X:Type} {J:X->World->Prop} {L':X->Sl} {C:X->Prop} {μ:X->Nat} {x:X} (y:X) (hC:C y) (hm:μ y<μ x) (hJ:J y w0) (hL:Sub L (L' y)) :
 At dfs n L H w0 [] (λa W=>∃ y w2,(C y/\μ y<μ x)/\J y w2/\Fr dfs n (L' y) a/\St H w2 [] W):=λ_ W f s=>⟨y,w0,⟨hC,hm⟩,hJ,f.sub hL,s⟩
theorem seqStops {α:Type} {gf:Nat} {lb:List Value} {enc:α->Value} {S:List α->Prop} {N:Nat} {w:World} {fn:Func} {c:Code} (hf:P.funcs[gf]? = some fn) (hb:fn.body=some c) (hn:fn.ntmps=n) (hl:Nat.ble (lb.length+1) n=true)
 (hA:∀ W,Ext w W->Agr H W)
 (h:∀ l (J Jx:List α->World->Prop) W,(∀ s A B,J s A->Ext A B->J s B)->(∀ s A B,Jx s A->Ext A B->Jx s B) ->
  (∀ pre x W1,J pre W1->pre.length<N->YieldAt Fence.wide 7 P l #[enc x] W1 λe W'=>(e=.returned (.bool true)/\J (pre++[x]) W'/\KpH H W1 W')\/(e=.returned (.bool false)/\Jx (pre++[x]) W')) ->
  J [] W->At [] n (slots 0 (.func (.yield l) #[] #[]::lb)) H W [] (c.wp P (bodyPost P fn λe W'=>(∃ v,e=.returned v)/\((∃ xs,S xs/\J xs W')\/(∃ pre,True/\Jx pre W'))))) :
 SeqStopsK Fence.wide 8 P gf lb.toArray (λx=>#[enc x]) (KpH H) S (λ_=>True) N w:=by
 intro l J Jx W hW hJ hJx hY h0;refine callsIn_wide.2 ?_;have:(#[Value.func (.yield l) #[] #[]]++lb.toArray:Array Value)=(Value.func (.yield l) #[] #[]::lb).toArray:=by simp
 rw [this];exact enter hf hb hn hl (hA W (by unfold Ext;exact hW)) (h l J Jx W (λs A B h e=>Sx.AbidesFrom.ext hJ h e) (λs A B h e=>Sx.AbidesFrom.ext hJx h e) hY h0)
end
variable {W:World}
theorem Res.ok.base {b:Nat} {x:Res} (h:x.ok c W) (hb:b<=c):x.ok b W:=by
 cases x with
 | box d l t=>exact ⟨Al_Nat_le_trans hb h.1,h.2⟩
 | obj d o=>exact ⟨Al_Nat_le_trans hb h.1,h.2⟩
 | big d=>exact h
 | ps et v xs =>
  obtain ⟨rfl,h0⟩ | ⟨g,cap,cur,rfl,hg,hc,hr⟩:=h
  ·exact .inl ⟨Z,h0⟩
  ·exact .inr ⟨g,cap,cur,Z,Al_Nat_le_trans hb hg,hc,hr⟩
 | row et size v n xs =>
  obtain ⟨hl,⟨rfl,h0⟩ | ⟨g,cap,cur,rfl,hg,hc,hr⟩⟩:=h
  ·exact ⟨hl,.inl ⟨Z,h0⟩⟩
  ·exact ⟨hl,.inr ⟨g,cap,cur,Z,Al_Nat_le_trans hb hg,hc,hr⟩⟩
variable {H':Hp} {w0 W':World} {bs bs':List Res}
theorem St.join (s:St H w0 bs W) (u:HUp W H H') (k:St H' W bs' W'):St H' w0 (bs'++bs) W':=by
 refine ⟨s.ext.trans k.ext,k.agr,λx hx=>?_,Al_List_pairwise_append.2 ⟨k.apart,s.apart,λx hx y hy b e e'=>?_⟩,u.up.lo ▸ s.lo⟩
 ·rcases Al_List_mem_append.1 hx with hx | hx
  ·exact ⟨(k.own x hx).1.base s.ext.size,(k.own x hx).2⟩
  ·exact ⟨(s.own x hx).1.ext k.ext,λb e=>u.new b ((s.own x hx).2 b e) ((s.own x hx).1.lt e).2⟩
 ·have h1:=((k.own x hx).1.lt e).1;have h2:=((s.own y hy).1.lt e').2;omega
section
variable {dfs:List Deferred} {P:Program} {L:Sl} {H:Hp} {w0:World} {bs:List Res} {ops:Array Oper}
variable {ty:TypeId} {pos:String} {aft:Array Edge} {t:Tmp} {x:Operand}
variable {N hn i k:Nat} {pa:List (Nat × Oper × Value)} {E:Sl->Hp->List Res->Prop} {r:List (Nat × Nat × Oper)}
end
def Qn (Q:Exit->Act->World->Prop):Exit->Act->World->Prop
 | .normal=>Q .normal
 | _=>λ_ _=>False
def noDef (l:List Oper):Bool:=l.all λo=>match o.op with | .defer _=>false | _=>true
section
variable {dfs:List Deferred} {P:Program} {n m:Nat} {L:Sl} {H:Hp} {w0:World} {bs:List Res} {Q:Exit->Act->World->Prop} {ops:Array Oper} {F:Fence}
theorem wpIn_of_wpQ [hF:FW F] {o:Oper} {a:Act} {w:World} {K:Act->World->Prop} (hd:∀ c,o.op≠.defer c) (h:o.wp P a w K (Qn Q)):o.wpIn F m P a w K Q:=by
 unfold Oper.wpIn;refine ⟨λf _=>hF.fn f,?_⟩;rw [Oper.semAt_plain F _ _ hd];unfold Oper.wp at h;generalize (execOp a.eval o).run P w=r at *;cases r with
 | ok z w' =>
  cases z <;> simp only [Oper.upon] at h <;> simp only [Oper.uponIn]
  case value u=>exact h
  case skip=>exact h
  case defer d=>exact h
  case enter f args =>
   refine ⟨λe=>(by rw [hF.depth] at e;cases e),hF.calls (h.mono ?_)⟩;intro e w'' q;cases e with
   | returned v=>exact q
   | panicked c=>exact q.elim
   | outgrown=>obtain ⟨_,_,q⟩:=q;exact q.elim
  case row rw args=>exact ⟨λe=>(by rw [hF.depth] at e;cases e),hF.rows h⟩
 | halt z w' =>
  cases z <;> simp only [Oper.upon] at h <;> exact h.elim
theorem anyIn [hF:FW F] (hd:∀ (i:Nat) o,ops[i]? = some o->∀ c,o.op≠.defer c):∀ (fuel:Nat) (listed:Array Bool) (a:Act) (w:World),wpAny P .any ops (Qn Q) fuel listed a w->wpAnyIn F m P .any ops Q fuel listed a w
 | 0,_,_,_,h=>h
 | fuel+1,listed,a,w,h=>by
  refine ⟨h.1,λi hi=>?_⟩;have h1:=h.2 i hi;unfold wpOp at h1;unfold wpOpIn;cases ho:ops[i]? with
  | none =>
   rw [ho] at h1;exact anyIn hd fuel _ _ _ h1
  | some o =>
   rw [ho] at h1;dsimp only at h1|-;cases hw:Region.wanted o (yielded ops a.tmps) with
   | true =>
    rw [hw] at h1;simp only [Al_if_true] at h1|-;rcases h1 with h1 | ⟨_,_,_,h1⟩
    ·exact Oper.wpIn_mono (λa w k=>anyIn hd fuel _ a w k) (wpIn_of_wpQ (hd i o ho) h1)
    ·exact h1.elim
   | false =>
    rw [hw] at h1;simp only [Al_Bool_false_eq_true,Al_if_false] at h1|-;exact ⟨λf _=>hF.fn f,anyIn hd fuel _ _ _ h1⟩
theorem noDef_at {l:List Oper} (h:noDef l=true):∀ (i:Nat) o,l.toArray[i]? = some o->∀ c,o.op≠.defer c:=by
 intro i o ho c e;have hm:o∈l:=Al_List_mem_of_getElem? (by simpa using ho);have:=Al_List_all_eq_true.1 h o hm;rw [e] at this;cases this
theorem At.flI [FW F] {id:Nat} {l:List Oper} {trip:List (Nat × Nat × Oper)} (nn:Nat) (ord:List (Nat × Nat)) (hm:P.follows .mixedOrders=true) (hB:flowB l.toArray nn ord=true) (hd:noDef l=true) (ht:ord.map (λx=>(x.1,x.2,l[x.1]!))=trip)
 (h:FlowP dfs P l.toArray nn w0 n (λL H bs=>At dfs n L H w0 bs (wpList P l.toArray (Qn Q) (l.drop nn))) trip [] L H bs):At dfs n L H w0 bs ((Code.region id l.toArray true).wpIn F m P Q) :=
 λa W f s=>wpIn_region_any hm (anyIn (noDef_at hd) _ _ _ _ (flowAny nn ord hB ht h a W f s))
theorem At.nlQ (h:At dfs n L H w0 bs (Q .normal)):At dfs n L H w0 bs (wpList P ops (Qn Q) []):=h
theorem At.bkI {id:Nat} {c:Code} (h:At dfs n L H w0 bs (c.wpIn F m P (Exit.inBlock id Q))):At dfs n L H w0 bs ((Code.block id c).wpIn F m P Q):=λa W f s=>wpIn_block (h a W f s)
end
structure Apx (H:Hp) (p:Nat) (fx:List Res) (TX:TypeId) (cs:List Value) (b:Nat) (W:World):Prop where
 blk:W.heap[b]? = some (.cells cs.toArray TX (0,0))
 new:H b=none
 head:∃ u l t m,W.heap[p]? = some (.cells (u::l).toArray t m)/\u.ownBlock≠some b
 ne:b≠p
 fix:∀ x∈fx,x.blk≠some b
theorem Apx.grow {p b:Nat} {fx:List Res} {TX:TypeId} {cs:List Value} {A B:World} {row:Option Nat} (h:Apx H p fx TX cs b A) (g:A.grownBy B row) (hr:∀ r,row=some r->∃ o:Obj,A.heap[r]? = some o/\o.isCells=false):Apx H p fx TX cs b B:=by
 have key:∀ {k:Nat} {arr:Array Value} {t:TypeId} {m:Nat × Nat},A.heap[k]? = some (Obj.cells arr t m)->B.heap[k]? = some (Obj.cells arr t m):=λ{k arr t m} hk=>by
  rw [<-hk];refine g.block k (block_lt hk) λe=>?_;obtain ⟨o,h1,h2⟩:=hr k e.symm;rw [hk] at h1;cases h1;cases h2
 obtain ⟨u,l,t,m,h1,h2⟩:=h.head;exact ⟨key h.blk,h.new,⟨u,l,t,m,key h1,h2⟩,h.ne,h.fix⟩
section
variable {H:Hp} {w0:World}
def rsB (e:TypeId) (size p:Nat) (T:TypeId) (fx:List Res) (v:Value) (k:Nat) (xs l:List Value):List Res:=.row e size v k xs::.box p (v::l) T::fx
theorem Apx.of {p b size k:Nat} {e T TX:TypeId} {fx tl:List Res} {v:Value} {xs l cs:List Value} {W:World} (s:St H w0 (.box b cs TX::(rsB e size p T fx v k xs l++tl)) W):Apx H p fx TX cs b W:=by
 have hb:=s.own _ (Al_List_mem_cons_self ..);have ha:=(Al_List_pairwise_cons.1 s.apart).1;refine ⟨hb.1.2,hb.2 b rfl,⟨v,l,T,_,(s.own (.box p (v::l) T) (by simp [rsB])).1.2,λe=>ha (.row _ _ v _ _) (by simp [rsB];exact .inl ⟨Z,Z,Z,Z⟩) b rfl e⟩,λe=>ha (.box p (v::l) T) (by simp [rsB]) b rfl (by rw [e];rfl),λx hx e=>ha x (by simp [rsB,hx]) b rfl e⟩
theorem Apx.st {p b size k:Nat} {e T TX:TypeId} {fx:List Res} {v:Value} {xs l cs:List Value} {W:World} (h:Apx H p fx TX cs b W) (s:St H w0 (rsB e size p T fx v k xs l) W):St (putH H b (.cells cs.toArray TX (0,0))) w0 (rsB e size p T fx v k xs l) W:=by
 refine ⟨s.ext,⟨λc o hc=>?_,s.agr.lo⟩,λx hx=>⟨(s.own x hx).1,λc hc=>?_⟩,s.apart,s.lo⟩
 ·by_cases e:c=b
  ·subst e;rw [putH_at] at hc;rw [<-hc];exact h.blk
  ·rw [putH_ne e] at hc;exact s.agr c o hc
 ·rw [putH_ne,(s.own x hx).2 c hc];intro e;subst e;unfold rsB at hx;rcases Al_List_mem_cons.1 hx with rfl | hx
  ·obtain ⟨u,l2,t,m,h1,h2⟩:=h.head;have h3:=(s.own (.box p (v::l) T) (by simp [rsB])).1.2;rw [h1] at h3;have h4:(u::l2).toArray=(v::l).toArray:=by injection h3 with h3;injection h3
   have h5:=congrArg Array.toList h4;simp only [Al_List_cons_injEq] at h5;rw [h5.1] at h2;exact h2 hc
  ·rcases Al_List_mem_cons.1 hx with rfl | hx
   ·exact h.ne (Al_Option_some_inj hc).symm
   ·exact h.fix x hx hc
theorem up_put {b:Nat} {o:Obj} (h:H b=none):Up H (putH H b o):=by
 refine ⟨λc x hc=>?_,Z⟩;rw [putH_ne]
 ·exact hc
 ·intro e;subst e;rw [h] at hc;cases hc
theorem At.rfB {α Z:Type} {bs:List Res} {dfs:List Deferred} {P:Program} {n:Nat} {L:Sl} {Q:Exit->Act->World->Prop} {g:Operand} {pt:Tmp} {assign body:Code} {gf:Nat} {lb:Array Value} {enc:α->Value} {S:List α->Prop} {N:Nat} {e T TX:TypeId} {size p:Nat} {fx:List Res}
 (C:List α->Z->Prop) (v:Z->Value) (k:Z->Nat) (xs l:Z->List Value) (z0:Z) (L2:α->Nat->Sl) (cx:α->List Value)
 (hg:ev L g=some (.func (.func gf) #[] lb)) (eg:∀ args w,(callFunc gf args).run P w=.ok (.enter gf args) w) (ht:Nat.blt pt n=true)
 (hseq:∀ w,Agr H w->SeqStopsK Fence.wide 8 P gf lb (λx=>#[enc x]) (KpH H) S (λ_=>True) N w)
 (h0:C [] z0) (hb:bs=rsB e size p T fx (v z0) (k z0) (xs z0) (l z0)) (hn:nobj fx=true)
 (hass:∀ l x bs' K,(∀ b,At [] n (L2 x b) H w0 (.box b (cx x) TX::bs') K)->At [] n ((pt,enc x)::L) H w0 bs' (assign.wpIn (Fence.wide.inRound l) 7 P (Exit.then K (λ_ _ _=>False))))
 (hbody:∀ l' pre x z tl b H2,C pre z->pre.length<N->Up H H2->MemAt H2 b 0 (cx x)->At [] n (L2 x b) H2 w0 (rsB e size p T fx (v z) (k z) (xs z) (l z)++tl) (body.wpIn (Fence.wide.inRound l') 7 P (Sx.rE C (λz=>rsB e size p T fx (v z) (k z) (xs z) (l z)) H w0 tl (pre++[x]))))
 (hdone:∀ D ys z,S ys->C ys z->At ({ target:=.collected D,args:=#[] }::dfs) n L H w0 (.obj D (.deferred (some []))::rsB e size p T fx (v z) (k z) (xs z) (l z)) (Q .normal)) :
 At dfs n L H w0 bs ((Code.rangeFunc g #[pt] assign body).wp P Q):=by
 intro a W f s;subst hb;have hnz:∀ z,nobj (rsB e size p T fx (v z) (k z) (xs z) (l z))=true:=λz=>hn;have hB:w0.heap.size<=W.heap.size:=s.ext.size;have hH:∀ r,W.heap.size<=r->H r=none:=λr hr=>s.agr.lt hr
 refine (wpIn_wide (n:=9)).1 (wpIn_rangeFunc_ownH (n:=9) (ps:=#[pt]) (α:=α) (N:=N) (S:=S) (Sp:=λ_=>True) (encs:=λx=>#[enc x]) (Kp:=KpH H) (w0:=W) rfl (by decide) (f.ev hg) trivial eg (hseq W s.agr) (λh k q=>k (h q)) ?_ (Below.refl _ _) (λ_=>rfl)
  (λpre W=>∃ z,C pre z/\St H w0 (rsB e size p T fx (v z) (k z) (xs z) (l z)) W) (λ_ _ _=>False) (ownSt hB hH λ_ z _=>hnz z) (λ_ _ _ _ _ h _ _=>h.elim) ⟨z0,h0,s⟩ (λx a' W=>∃ b,Fr [] n (L2 x b) a'/\Apx H p fx TX (cx x) b W)
  (λx a' _ A B row h hg hr=>by obtain ⟨b,h1,h2⟩:=h;exact ⟨b,h1,h2.grow hg λr e=>(hr r e).2⟩) ?_ ?_ ?_ (λ_ _ _ _ _ _ h=>h.elim))
 ·intro W1 l o o' hl ho _ _ q;refine ⟨λb ob e=>?_,by have:=q.lo;simpa [World.putObj] using this⟩;have hne:b≠l:=λh=>by subst h;rw [hH b hl] at e;cases e
  exact (World.putObj_heap_other hne).trans (q b ob e)
 ·rintro l' pre x W1 K ⟨z,hz,s1⟩ hK
  have f1:Fr [] n ((pt,enc x)::L) { tmps:=(#[pt].zip #[enc x]).foldl (λt (p,v)=>t.setIfInBounds p v) a.tmps,defers:=[] }:=by
   have f2:Fr [] n L { a with defers:=[] }:=⟨f.size,rfl,f.slot⟩;have e:(#[pt].zip #[enc x]).foldl (λt (x:Tmp × Value)=>match x with | (p,v)=>t.setIfInBounds p v) a.tmps=a.tmps.setIfInBounds pt (enc x):=by simp
   rw [e];exact f2.put ht (enc x)
  refine hass l' x _ K ?_ _ W1 f1 (s1.tailOf (hnz z) hB hH);intro b a' W2 f' s2;have s3:=s2.drop;exact hK a' W2 s3.keepsFrom (λ_=>s3.agr) ⟨z,hz,s3.front⟩ ⟨b,f',Apx.of s2⟩
 ·rintro l' pre x a' W1 hl _ ⟨z,hz,s1⟩ ⟨b,f',hx⟩ hlen;have s2:=hx.st s1;have hH2:∀ r,W1.heap.size<=r->putH H b (Obj.cells (cx x).toArray TX (0,0)) r=none:=λr hr=>s2.agr.lt hr;have ht:=s1.tailOf (B:=W.heap.size) (hnz z) hB hH
  have s4:St (putH H b (.cells (cx x).toArray TX (0,0))) w0 (rsB e size p T fx (v z) (k z) (xs z) (l z)++Sx.tailOf W.heap.size W1) W1:=by
   refine ⟨ht.ext,s2.agr,λy hy=>?_,ht.apart,ht.lo⟩;rcases Al_List_mem_append.1 hy with h | h
   ·exact s2.own y h
   ·refine ⟨(ht.own y hy).1,λc hc=>?_⟩;rw [putH_ne,(ht.own y hy).2 c hc];rintro rfl;rcases mem_tailOf h with rfl | ⟨d,o,rfl,ho,hc2,_⟩
    ·cases hc
    ·obtain rfl:d=c:=Al_Option_some_inj hc;rw [hx.blk] at ho;cases ho;cases hc2
  refine wpIn_mono (hbody l' pre x z _ b _ hz hlen (up_put hx.new) ⟨_,_,_,Al_if_pos rfl,λj u e=>by simpa using e⟩ a' W1 f' s4) ?_;intro e a2 W2 h;cases e with
  | normal =>
   obtain ⟨z',hz',s2⟩:=h;exact ⟨s2.keepsFrom,λ_=>s2.agr,z',hz',s2.front⟩
  | _=>exact h.elim
 ·rintro D ys W1 hD hS ⟨z,hz,s1⟩ hd;refine hdone D ys z hS hz _ W1 ⟨f.size,by show _::_=_;rw [f.defers],f.slot⟩ ⟨s1.ext,s1.agr,?_,.cons ?_ s1.apart,s1.lo⟩
  ·intro x hx;rcases Al_List_mem_cons.1 hx with rfl | hx
   ·exact ⟨⟨Al_Nat_le_trans hB hD,hd⟩,λb e=>by obtain rfl:D=b:=Al_Option_some_inj e;exact hH D hD⟩
   ·exact s1.own x hx
  ·intro y hy b e e';obtain rfl:D=b:=Al_Option_some_inj e;exact nobj_ne s1 (hnz z) hd rfl y hy e'
end
theorem St.put1 {x y:Res} (h:St H w0 bs W) (u:Upd bs x y bs') (hy:y.ok w0.heap.size W) (hb:∀ b,y.blk=some b->x.blk=some b):St H w0 bs' W :=
 h.upd u h.ext (Al_Nat_le_refl _) (λ_ _ _=>rfl) hy (λb e=>.inl (hb b e))
/-! ### A drawn region without an operation that waits for all others: each order of the heavy ones -/
structure FitE (ops:Array Oper) (n:Nat):Prop where
 all:n=ops.size
 sel:∀ (j:Nat) (o:Oper) (cs:Array SelectCase) (b:Bool),ops[j]? = some o->o.op≠.select cs b
 back:∀ i o,ops[i]? = some o->∀ e∈o.after,Region.binds .any e=true->e.on<i
 apart:∀ j k,j<n->k<n->j≠k->∀ d,dstOf ops j=some d->dstOf ops k≠some d
 look:∀ i o,i<n->ops[i]? = some o->∀ t∈o.looksAt ops,∀ j,j<n->dstOf ops j=some t->Region.waitsFor .any ops i j=true
def parE (ops:Array Oper) (n:Nat):Bool :=
 Region.noSelect ops && decide (n=ops.size) &&
 (List.range ops.size).all (λi=>((ops[i]?).map λo=>o.after.all λe=>!Region.binds .any e || decide (e.on<i)).getD true) &&
 (List.range n).all (λi=>(List.range n).all λj=>decide (i=j) || (dstOf ops i).isNone || dstOf ops i != dstOf ops j) &&
 (List.range n).all (λi=>((ops[i]?).map λo=>(o.looksAt ops).all λt=>(List.range n).all λj=>dstOf ops j != some t || Region.waitsFor .any ops i j).getD true)
theorem FitE.of {ops:Array Oper} (h:parE ops n=true):FitE ops n:=by
 simp only [parE,Al_Bool_and_eq_true,Al_decide_eq_true_eq] at h;obtain ⟨⟨⟨⟨h1,h2⟩,h5⟩,h6⟩,h7⟩:=h;refine ⟨h2,Region.noSelect_spec h1,?_,?_,?_⟩
 ·intro i o ho e he hb;have hi:i<ops.size:=(Array.getElem?_eq_some_iff.1 ho).1;have:=Al_List_all_eq_true.1 h5 i (Al_List_mem_range.2 hi);simp only [ho,Al_Option_map_some,Al_Option_getD_some,Al_Array_all_eq_true_iff_forall_mem] at this;have:=this e he;simpa [hb] using this
 ·intro j k hj hk hne d hd;have:=Al_List_all_eq_true.1 (Al_List_all_eq_true.1 h6 j (Al_List_mem_range.2 hj)) k (Al_List_mem_range.2 hk);simp only [hd,hne,Al_decide_false,Al_Bool_false_or,Option.isNone_some,bne_iff_ne] at this;exact λe=>this e.symm
 ·intro i o hi ho t ht j hj hd;have:=Al_List_all_eq_true.1 h7 i (Al_List_mem_range.2 hi);simp only [ho,Al_Option_map_some,Al_Option_getD_some] at this;have:=Al_List_all_eq_true.1 (Al_List_all_eq_true.1 this t ht) j (Al_List_mem_range.2 hj);simpa [hd] using this
section
variable {dfs:List Deferred} {P:Program} {ops:Array Oper} {w0:World} {n N:Nat}
variable {l:List Oper} {a0:Act} {E:Sl->Hp->List Res->Prop} {Q:Exit->Act->World->Prop} {listed:Array Bool} {a:Act} {W:World} {val:Nat->Value} {dec:Nat->Bool} {D A:List Nat} {L:Sl} {H:Hp} {bs:List Res} {pa:List (Nat × Oper × Value)}
theorem eval_sameE (F:FitE ops n) {a0:Act} {v1 v2:Nat->Value} {S1 S2:Nat->Bool} {i:Nat} {o:Oper} (hi:i<n) (ho:ops[i]? = some o)
 (h:∀ j,j<n->Region.waitsFor .any ops i j=true->S1 j=true/\S2 j=true/\v1 j=v2 j) (t:Tmp) (ht:t∈o.looksAt ops) :
 (frm ops v1 S1 n a0).eval (.tmp t)=(frm ops v2 S2 n a0).eval (.tmp t):=by
 by_cases hw:∃ j,j<n/\dstOf ops j=some t
 ·obtain ⟨j,hj,hd⟩:=hw;obtain ⟨h1,h2,h3⟩:=h j hj (F.look i o hi ho t ht j hj hd);rw [frm_in _ S1 a0 t j h1 hd n hj (λk hk hne e=>F.apart k j hk hj hne t e hd),frm_in _ S2 a0 t j h2 hd n hj (λk hk hne e=>F.apart k j hk hj hne t e hd),h3]
 ·rw [frm_out _ S1 a0 t n (λk hk _ hd=>hw ⟨k,hk,hd⟩),frm_out _ S2 a0 t n (λk hk _ hd=>hw ⟨k,hk,hd⟩)]
theorem frm_putE (F:FitE ops n) {i:Nat} {o:Oper} {v:Value} (hi:i<n) (ho:ops[i]? = some o) (hd:dec i=false) :
 frm ops (upd val i v) (upd dec i true) n a0=(frm ops val dec n a0).put o.dst v:=by
 have e1:dstOf ops i=o.dst:=by simp [dstOf,ho]
 rw [frm_more (upd val i v) dec (upd dec i true) a0 i (upd_same _ _ _) hd (λk hk=>upd_ne _ _ hk) n hi F.apart,upd_same,e1]
 congr 1
 refine frm_congr _ _ _ _ a0 n λk _=>⟨Z,λhk=>upd_ne _ _ λe=>?_⟩;subst e;rw [hd] at hk;cases hk
theorem GT.decideE (F:FitE ops n) {i:Nat} {o:Oper} (I:GT dfs P ops l w0 n N a0 E listed a W val dec D L H bs pa) (hi:i<n) (ho:ops[i]? = some o) (hiD:D.contains i=false) (hwt:((List.range n).all λj=>!Region.waitsFor .any ops i j || D.contains j)=true)
 {v:Value} (hy:∀ a W,Fr dfs N L a->St H w0 bs W->Yq P ops o v a W) (hN:∀ t,o.dst=some t->t<N) :
 GT dfs P ops l w0 n N a0 E listed a W (upd val i v) (upd dec i true) (i::D) (putL o.dst v L) H bs ((i,o,v)::pa):=by
 have hdi:dec i=false:=(I.set i).trans hiD;have hdeps:∀ j,j<n->Region.waitsFor .any ops i j=true->dec j=true:=λj hj hw=>(I.set j).trans (waits_ok hwt hj hw)
 have hii:∀ j,j<n->Region.waitsFor .any ops i j=true->j≠i:=λj hj hw e=>by
  have:=hdeps j hj hw;rw [e,hdi] at this;cases this
 have hli:st listed i=false:=by
  cases h:st listed i with
  | false=>rfl
  | true=>have:=I.sub i hi h;rw [hdi] at this;cases this
 have hput:=frm_putE (a0:=a0) (val:=val) (v:=v) F hi ho hdi;refine ⟨I.head,?_,?_,?_,I.world,?_,?_,upd_set I.set,?_⟩
 ·rw [I.frame];refine frm_congr _ _ _ _ a0 n λk _=>⟨Z,λhk=>(upd_ne _ _ λe=>?_).symm⟩;subst e;rw [hli] at hk;cases hk
 ·rw [hput];exact I.full.putL v hN
 ·intro j hj hs
  by_cases e:j=i
  ·subst e;exact upd_same _ _ _
  ·rw [upd_ne _ _ e];exact I.sub j hj hs
 ·intro j oj hj hoj hd hs W hW
  by_cases e:j=i
  ·subst e;obtain rfl:oj=o:=Al_Option_some_inj (hoj.symm.trans ho);rw [upd_same];refine Yq.same (λcs b=>F.sel j oj cs b ho) (λt ht=>?_) (hy _ W I.full hW);refine eval_sameE F hj ho (λk hk hw=>?_) t ht;have hkd:=hdeps k hk hw;have hki:=hii k hk hw;exact ⟨by rw [upd_ne _ _ hki];exact hkd,hkd,upd_ne _ _ hki⟩
  ·rw [upd_ne _ _ e] at hd|-;refine Yq.same (λcs b=>F.sel j oj cs b hoj) (λt ht=>?_) (I.light j oj hj hoj hd hs W hW);refine eval_sameE F hj hoj (λk hk hw=>?_) t ht;have hkd:=I.deps j k hj hk hd hw;have hki:k≠i:=λe=>by subst e;rw [hdi] at hkd;cases hkd
   exact ⟨by rw [upd_ne _ _ hki];exact hkd,hkd,upd_ne _ _ hki⟩
 ·intro j oj hj hoj hd hs
  by_cases e:j=i
  ·subst e;obtain rfl:oj=o:=Al_Option_some_inj (hoj.symm.trans ho);rw [upd_same];exact .head _
  ·rw [upd_ne _ _ e] at hd|-;exact .tail _ (I.past j oj hj hoj hd hs)
 ·intro j k hj hk hd hw
  by_cases e:j=i
  ·subst e;rw [upd_ne _ _ (hii k hk hw)];exact hdeps k hk hw
  ·rw [upd_ne _ _ e] at hd;have:=I.deps j k hj hk hd hw
   by_cases e2:k=i
   ·subst e2;exact upd_same _ _ _
   ·rw [upd_ne _ _ e2];exact this
theorem GT.stepE (F:FitE ops n) {i:Nat} {o:Oper} {W':World} (I:GT dfs P ops l w0 n N a0 E listed a W val dec D L H bs pa) (hi:i<n) (ho:ops[i]? = some o) (hr:i∈Region.ready .any ops listed) (hd:dec i=true) (hx:Ext W W') :
 GT dfs P ops l w0 n N a0 E (listed.setIfInBounds i true) (a.put o.dst (val i)) W' val dec D L H bs pa:=by
 have hun:st listed i=false:=(mem_ready.1 hr).1;have e1:dstOf ops i=o.dst:=by simp [dstOf,ho]
 refine ⟨I.head.set hr hi,?_,I.full,?_,I.world.more hx,?_,?_,I.set,I.deps⟩
 ·rw [I.frame,frm_more val (st listed) (st (listed.setIfInBounds i true)) a0 i st_set_same hun (λk hk=>st_set hk) n hi F.apart,e1]
 ·intro j hj hs
  by_cases e:j=i
  ·subst e;exact hd
  ·rw [st_set e] at hs;exact I.sub j hj hs
 ·intro j oj hj hoj hdj hs;have e:j≠i:=λe=>by subst e;rw [st_set_same] at hs;cases hs
  rw [st_set e] at hs;exact I.light j oj hj hoj hdj hs
 ·intro j oj hj hoj hdj hs;have e:j≠i:=λe=>by subst e;rw [st_set_same] at hs;cases hs
  rw [st_set e] at hs;exact I.past j oj hj hoj hdj hs
theorem GT.heavyE (F:FitE ops n) {i k:Nat} {o:Oper} {v:Value} {W':World} {H':Hp} {bs':List Res} (I:GT dfs P ops l w0 n N a0 E listed a W val dec D L H bs pa) (hi:i<n) (ho:ops[i]? = some o) (hiD:D.contains i=false) (hwt:((List.range n).all λj=>!Region.waitsFor .any ops i j || D.contains j)=true) (hk1:(!(k == 1) || D.all λj=>reach ops n i j)=true) (hN:∀ t,o.dst=some t->t<N) (hr:i∈Region.ready .any ops listed)
 (hs:St H' w0 bs' W') (hws:k=1\/(∀ W,St H' w0 bs' W->St H w0 bs W)\/RedoP dfs P ops n w0 N L H' bs' i pa) :
 GT dfs P ops l w0 n N a0 E (listed.setIfInBounds i true) (a.put o.dst v) W' (upd val i v) (upd dec i true) (i::D) (putL o.dst v L) H' bs' pa:=by
 have hdi:dec i=false:=(I.set i).trans hiD;have hdeps:∀ j,j<n->Region.waitsFor .any ops i j=true->dec j=true:=λj hj hw=>(I.set j).trans (waits_ok hwt hj hw)
 have hii:∀ j,j<n->Region.waitsFor .any ops i j=true->j≠i:=λj hj hw e=>by
  have:=hdeps j hj hw;rw [e,hdi] at this;cases this
 have hun:st listed i=false:=(mem_ready.1 hr).1;have e1:dstOf ops i=o.dst:=by simp [dstOf,ho]
 have hput:=frm_putE (a0:=a0) (val:=val) (v:=v) F hi ho hdi;refine ⟨I.head.set hr hi,?_,?_,?_,hs,?_,?_,upd_set I.set,?_⟩
 ·rw [I.frame,frm_more (upd val i v) (st listed) (st (listed.setIfInBounds i true)) a0 i st_set_same hun (λk hk=>st_set hk) n hi F.apart,e1,upd_same]
  congr 1
  refine frm_congr _ _ _ _ a0 n λk _=>⟨Z,λhk=>(upd_ne _ _ λe=>?_).symm⟩;subst e;rw [hun] at hk;cases hk
 ·rw [hput];exact I.full.putL v hN
 ·intro j hj hs
  by_cases e:j=i
  ·subst e;exact upd_same _ _ _
  ·rw [upd_ne _ _ e];rw [st_set e] at hs;exact I.sub j hj hs
 ·intro j oj hj hoj hd hs W hW;have e:j≠i:=λe=>by subst e;rw [st_set_same] at hs;cases hs
  rw [st_set e] at hs;rw [upd_ne _ _ e] at hd|-
  have hdone:reach ops n i j=true->False:=λh1=>by
   obtain ⟨_,oi,hoi,hall⟩:=mem_ready.1 hr
   have h2:=reach_listed I.head n i j h1 (λok hok x hx hb=>by
    obtain rfl:ok=oi:=Al_Option_some_inj (hok.symm.trans hoi);exact hall x hx hb)
   rw [getD_both hs] at h2;cases h2
  have hy:Yq P ops oj (val j) (frm ops val dec n a0) W:=by
   rcases hws with hk | hw | hw
   ·subst hk;have hjD:j∈D:=by have:=(I.set j).symm.trans hd;simpa using this
    simp only [beq_self_eq_true,Al_Bool_not_true,Al_Bool_false_or] at hk1;exact (hdone (Al_List_all_eq_true.1 hk1 j hjD)).elim
   ·exact I.light j oj hj hoj hd hs W (hw W hW)
   ·rcases hw.at (I.past j oj hj hoj hd hs) with h1 | h1
    ·exact (hdone h1).elim
    ·exact h1 _ W I.full hW
  refine Yq.same (λcs b=>F.sel j oj cs b hoj) (λt ht=>?_) hy;refine eval_sameE F hj hoj (λk hk hw=>?_) t ht;have hkd:=I.deps j k hj hk hd hw;have hki:k≠i:=λe=>by subst e;rw [hdi] at hkd;cases hkd
  exact ⟨by rw [upd_ne _ _ hki];exact hkd,hkd,upd_ne _ _ hki⟩
 ·intro j oj hj hoj hd hs;have e:j≠i:=λe=>by subst e;rw [st_set_same] at hs;cases hs
  rw [st_set e] at hs;rw [upd_ne _ _ e] at hd|-;exact I.past j oj hj hoj hd hs
 ·intro j k hj hk hd hw
  by_cases e:j=i
  ·subst e;rw [upd_ne _ _ (hii k hk hw)];exact hdeps k hk hw
  ·rw [upd_ne _ _ e] at hd;have:=I.deps j k hj hk hd hw
   by_cases e2:k=i
   ·subst e2;exact upd_same _ _ _
   ·rw [upd_ne _ _ e2];exact this
theorem flowT_gameE (hl:ops=l.toArray) (F:FitE ops n) (hend:∀ L H bs,E L H bs->At dfs N L H w0 bs (Q .normal)) :
 ∀ (m:Nat) (p:Pi0) (listed:Array Bool) (a:Act) (W:World) (val:Nat->Value) (dec:Nat->Bool) (D:List Nat) (L:Sl) (H:Hp) (bs:List Res) (pa:List (Nat × Oper × Value)),cnt (st listed) n=m->okT ops n D [] p=true ->
  FlowT dfs P ops n w0 N E (fillT l p) pa L H bs->GT dfs P ops l w0 n N a0 E listed a W val dec D L H bs pa->wpAny P .any ops Q (m+(ops.size - n)) listed a W:=by
 have hop:∀ i,i<n->ops[i]? = some l[i]! := λi hi=>by
  have h1:i<ops.size:=by have:=F.all;omega
  subst hl;have h2:i<l.length:=by simpa using h1
  simp [h2]
 intro m;induction m with
 | zero =>
  intro p;induction p with
  | done =>
   intro listed a W val dec D L H bs pa hm hok hF I;have hall:=cnt_zero _ n hm;have hsz:ops.size - n=0:=by have:=F.all;omega
   rw [hsz]
   have hrd:Region.ready .any ops listed=[]:=List.eq_nil_iff_forall_not_mem.2 λk hk=>by
    obtain ⟨h1,o,h2,_⟩:=mem_ready.1 hk;have h3:k<ops.size:=(Array.getElem?_eq_some_iff.1 h2).1;have h4:=hall k (by have:=F.all;omega);have h5:k<listed.size:=by rw [I.head.size];exact h3
    simp [st,h5] at h1 h4;rw [h4] at h1;cases h1
   have hfr:a=frm ops val dec n a0:=by
    rw [I.frame];exact frm_congr _ _ _ _ a0 n (λk hk=>⟨by rw [hall k hk,I.sub k hk (hall k hk)],λ_=>rfl⟩)
   rw [hfr];exact At.ae (n:=N) (L:=L) hrd (hend L H bs hF) _ W I.full I.world
  | no =>
   intro listed a W val dec D L H bs pa hm hok hF I;simp [okT] at hok
  | light i r ih =>
   intro listed a W val dec D L H bs pa hm hok hF I;have hall:=cnt_zero _ n hm;simp only [okT,Al_Bool_and_eq_true,Al_decide_eq_true_eq,Al_Bool_not_eq_true'] at hok;have:=I.sub i hok.1.1.1.2 (hall i hok.1.1.1.2);rw [I.set i,hok.1.1.2] at this;cases this
  | alt i k r q ih1 ih2 =>
   intro listed a W val dec D L H bs pa hm hok hF I;have hall:=cnt_zero _ n hm;simp only [okT,Al_Bool_and_eq_true,Al_decide_eq_true_eq,Al_Bool_not_eq_true'] at hok;have:=I.sub i hok.1.1.1.1.1 (hall i hok.1.1.1.1.1);rw [I.set i,hok.1.1.1.1.2] at this;cases this
 | succ m ih =>
  have one_step:∀ (p:Pi0) (listed:Array Bool) (a:Act) (W:World) (val:Nat->Value) (dec:Nat->Bool) (D:List Nat) (L:Sl) (H:Hp) (bs:List Res) (pa:List (Nat × Oper × Value)),cnt (st listed) n=m+1->okT ops n D [] p=true ->
   FlowT dfs P ops n w0 N E (fillT l p) pa L H bs->GT dfs P ops l w0 n N a0 E listed a W val dec D L H bs pa->(p=.done\/p=.no\/∃ i k r q,p=.alt i k r q)->wpAny P .any ops Q (m+1+(ops.size - n)) listed a W:=by
   intro p listed a W val dec D L H bs pa hm hok hF I hp;obtain ⟨k0,hk0,hun0,hbelow⟩:=cnt_pos (st listed) n (by omega);have hk0s:k0<ops.size:=by have:=F.all;omega
   have hready0:k0∈Region.ready .any ops listed:=by
    refine mem_ready.2 ⟨hun0,ops[k0],Array.getElem?_eq_getElem hk0s,λe he hb=>?_⟩;have hlt:=F.back k0 _ (Array.getElem?_eq_getElem hk0s) e he hb;have:=hbelow e.on hlt;have hsz:e.on<listed.size:=by rw [I.head.size];omega
    simpa [st,hsz] using this
   rw [show m+1+(ops.size - n)=(m+(ops.size - n))+1 by omega];refine ⟨λh0=>(by rw [h0] at hready0;cases hready0),λj hj=>?_⟩
   have hjn:j<n:=by
    rcases Al_Nat_lt_or_ge j n with h | h
    ·exact h
    ·exfalso
     obtain ⟨_,oj,hoj,_⟩:=mem_ready.1 hj;have h3:j<ops.size:=(Array.getElem?_eq_some_iff.1 hoj).1;have:=F.all;omega
   obtain ⟨hun,oj,hoj,hall⟩:=mem_ready.1 hj
   have hcnt:cnt (st (listed.setIfInBounds j true)) n=m:=by
    have:=cnt_more (st listed) (st (listed.setIfInBounds j true)) j st_set_same hun (λk hk=>st_set hk) n hjn;omega
   have hS:∀ k,k<n->Region.waitsFor .any ops j k=true->st listed k=true:=by
    intro k hk hw;obtain ⟨oi,hoi,e,he,hb,hon⟩:=Region.waitsFor_spec hw;obtain rfl:oi=oj:=Al_Option_some_inj (hoi.symm.trans hoj);have h1:=hall e he hb;rw [hon] at h1;have hsz:k<listed.size:=by rw [I.head.size];have:=F.all;omega
    simp [hsz] at h1;simp [st,hsz,h1]
   have hev:∀ t∈oj.looksAt ops,a.eval (.tmp t)=(frm ops val dec n a0).eval (.tmp t):=λt ht=>by
    rw [I.frame];exact eval_sameE F hjn hoj (λk hk hw=>⟨hS k hk hw,I.sub k hk (hS k hk hw),Z⟩) t ht
   cases hd:dec j with
   | true =>
    have hy:Yq P ops oj (val j) a W:=Yq.same (λcs b=>F.sel j oj cs b hoj) hev (I.light j oj hjn hoj hd hun W I.world);exact hy.wpOp hoj λW' hx=>ih p _ _ _ _ _ _ _ _ _ _ hcnt hok hF (I.stepE F hjn hoj hj hd hx)
   | false =>
    have hjD:D.contains j=false:=(I.set j).symm.trans hd
    have hch:p=.no\/∃ i k r q',p=.alt i k r q':=by
     rcases hp with rfl | rfl | h
     ·exfalso
      simp only [okT,Al_Bool_and_eq_true] at hok;have:=Al_List_all_eq_true.1 hok.2 j (Al_List_mem_range.2 hjn);rw [hjD] at this;cases this
     ·exact .inl Z
     ·exact .inr h
    obtain ⟨k,r,h1,h2,h3,h4,h5⟩:=chain_find hl hjn hjD (λi hi hin=>by
     cases hre:reach ops n j i with
     | false=>rfl
     | true =>
      have h2:=reach_listed I.head n j i hre (λok hok e he hb=>by
       obtain rfl:ok=oj:=Al_Option_some_inj (hok.symm.trans hoj);exact hall e he hb)
      have h3:st listed i=false:=by
       cases h:st listed i with
       | false=>rfl
       | true=>have:=I.sub i hin h;rw [I.set i,hi] at this;cases this
      rw [getD_both h3] at h2;cases h2) p [] hch hok (λi hi=>by cases hi) hF
    have hoj2:=hop j hjn;obtain rfl:oj=l[j]! := Al_Option_some_inj (hoj.symm.trans hoj2);refine one_same hoj (λcs b=>F.sel j _ cs b hoj) hev (λb W' ⟨v,H',bs',hf,_⟩=>hf.defers) I.full.defers ?_ (h5 _ W I.full I.world);rintro v W' ⟨v',H',bs',hf,hs,hw,hp'⟩
    have hvv:putL (l[j]!).dst v' L=putL (l[j]!).dst v L:=by
     cases hdst:(l[j]!).dst with
     | none=>rfl
     | some t =>
      rw [hdst] at hf;have h1:=hf.slot t v' (by unfold putL look;rw [Al_Nat_beq_refl,Al_cond_true]);have h2:t<N:=h4 t hdst;have h3:=(I.full.put (by simpa [Al_Nat_blt_eq] using h2) v).slot t v (by unfold look;rw [Al_Nat_beq_refl,Al_cond_true]);rw [h3] at h1;rw [h1]
    rw [hvv] at hp';exact ih r _ _ _ _ _ _ _ _ _ _ hcnt h3 hp' (I.heavyE F hjn hoj hjD h1 h2 h4 hj hs hw)
  intro p;induction p with
  | done=>exact λlisted a W val dec D L H bs pa hm hok hF I=>one_step _ listed a W val dec D L H bs pa hm hok hF I (.inl Z)
  | no=>exact λlisted a W val dec D L H bs pa hm hok hF I=>one_step _ listed a W val dec D L H bs pa hm hok hF I (.inr (.inl Z))
  | alt i k r q _ _=>exact λlisted a W val dec D L H bs pa hm hok hF I=>one_step _ listed a W val dec D L H bs pa hm hok hF I (.inr (.inr ⟨_,_,_,_,Z⟩))
  | light i r ihr =>
   intro listed a W val dec D L H bs pa hm hok hF I;simp only [okT,Al_Bool_and_eq_true,Al_decide_eq_true_eq,Al_Bool_not_eq_true'] at hok;obtain ⟨⟨⟨⟨_,hi⟩,hiD⟩,hwt⟩,hok'⟩:=hok;unfold fillT FlowT at hF;obtain ⟨v,hy,hN,hF'⟩:=hF;exact ihr listed a W _ _ _ _ H bs _ hm hok' hF' (I.decideE F hi (hop i hi) hiD hwt hy hN)
theorem flowTE {id:Nat} {l:List Oper} {p:PlT} {Q:Exit->Act->World->Prop} {L:Sl} {H:Hp} {bs:List Res} (n:Nat) (p0:Pi0) (hm:P.follows .mixedOrders=true) (hB:(parE l.toArray n && okT l.toArray n [] [] p0)=true) (ht:fillT l p0=p)
 (h:FlowT dfs P l.toArray n w0 N (λL H bs=>At dfs N L H w0 bs (Q .normal)) p [] L H bs):At dfs N L H w0 bs ((Code.region id l.toArray true).wp P Q):=by
 simp only [Al_Bool_and_eq_true] at hB;obtain ⟨h1,h2⟩:=hB;have F:=FitE.of h1;have hlt:n=l.length:=by simpa using F.all
 subst ht;intro a W f s;refine wp_region_any hm ?_;have hsz:l.toArray.size=l.length:=by simp
 have hc0:∀ m,m<=n->cnt (st (Array.replicate l.toArray.size false)) m=m:=by
  intro m;induction m with
  | zero=>intro _;rfl
  | succ m ih =>
   intro hm;unfold cnt;rw [ih (by omega)]
   have:st (Array.replicate l.toArray.size false) m=false:=by
    have:m<l.length:=by omega
    simp [st,this]
   rw [this];simp
 have hfrm:∀ (val:Nat->Value) (m:Nat),frm l.toArray val (λ_=>false) m a=a:=λval m=>by
  induction m with
  | zero=>rfl
  | succ m ih=>unfold frm;simp [ih]
 have hall:∀ m,m<=n->∀ k,k<m->st (Array.replicate l.toArray.size false) k=false:=λm hm k hk=>by
  have:k<l.length:=by omega
  simp [st,this]
 have hh:HeadInv .any l.toArray n (Array.replicate l.toArray.size false):=by
  refine ⟨by simp,λj oj hj hl=>?_,λt ht ht'=>?_⟩
  ·exfalso
   rcases Al_Nat_lt_or_ge j l.length with h | h
   ·simp [h] at hl
   ·simp [h] at hl
  ·have:t<l.length:=by simpa using ht'
   simp [this]
 have key:=flowT_gameE (Q:=Q) (a0:=a) (l:=l) rfl F (λL H bs h=>h) n p0 (Array.replicate l.toArray.size false) a _ (λ_=>undef) (λ_=>false) [] L H bs [] (hc0 n (Al_Nat_le_refl _)) h2 h
  ⟨hh,?_,by rw [hfrm];exact f,?_,s.more ((Ext.refl W).drew),λ_ _ _ _ h=>(by cases h),λ_ _ _ _ h=>(by cases h),λ_=>rfl,λ_ _ _ _ h=>(by cases h)⟩
 ·have:n+(l.toArray.size - n)=l.toArray.size:=by rw [hsz];omega
  rw [this] at key;exact key
 ·rw [frm_congr (λ_=>undef) (λ_=>undef) _ (λ_=>false) a n (λk hk=>⟨hall n (Al_Nat_le_refl _) k hk,λ_=>rfl⟩),hfrm]
 ·intro i hi hs;rw [hall n (Al_Nat_le_refl _) i hi] at hs;cases hs
end
section
variable {dfs:List Deferred} {P:Program} {n:Nat} {L:Sl} {H:Hp} {w0:World} {bs:List Res} {Q:Exit->Act->World->Prop} {ops:Array Oper} {rest:List Oper} {K:Act->World->Prop}
variable {d:Option Tmp} {ty:TypeId} {pos:String} {aft:Array Edge} {v:Value} {t:Tmp} {x y:Operand} {T:TypeId}
theorem storeR {g off k c size:Nat} {e:TypeId} {xs vs:List Value} {bs':List Res} (hp:ev L x=some (.pointer (some ⟨g,off,none⟩))) (hv:ev L y=some (.agg vs.toArray)) (hT:sizeN P T=some vs.length) (h1:∀ u∈vs,u.oneCell'=true)
 (hm:Upd bs (.row e size (.slice (some ⟨g,0,none⟩) k c) k xs) (.row e size (.slice (some ⟨g,0,none⟩) k c) k (setsL xs off vs)) bs') (ho:off+vs.length<=xs.length) (h:At dfs n L H w0 bs' K) :
 At dfs n L H w0 bs (one P ops Q ⟨none,.store T x y,ty,pos,aft,none⟩ K):=by
 intro a W f s;have ho1:W.ownsRow w0.heap.size e size (.slice (some ⟨g,0,none⟩) k c) k xs:=(s.own _ hm.mem).1;rcases ho1.2 with ⟨hr,_⟩ | ⟨g',cap,cur,hr,hbg,hgc,hnc,hcm,hcs,htake⟩
 ·cases hr
 ·injection hr with e1 _ e3
  injection e1 with e1
  injection e1 with e1
  subst e1 e3;obtain ⟨more,hmo⟩:∃ more,more=cur.toList.drop (k * size):=⟨_,Z⟩;have hcur:cur.toList=xs++more:=by rw [hmo,<-htake,Al_List_take_append_drop]
  have hcur2:cur=(xs++more).toArray:=by rw [<-hcur]
  obtain ⟨b1,u1,u2⟩:=hm.mid (.box g (xs++more) e);obtain ⟨b2,u3,u4⟩:=u2.mid (.box g (setsL (xs++more) off vs) e);have s1:St H w0 b1 W:=s.put1 u1 ⟨hbg,by rw [hgc,<-hcur2]⟩ (λb e=>e);refine stores hp hv hT rfl h1 u3 (by rw [Al_List_length_append];omega) ?_ a W f s1;intro a W f s2;have ob:=(s2.own _ u4.mem).1;have e4:setsL (xs++more) off vs=setsL xs off vs++more:=setsL_app vs xs more off ho;have hz:xs.length=k * size:=ho1.1;refine h a W f (s2.put1 u4 ⟨by rw [setsL_len];exact hz,.inr ⟨g,c,(setsL (xs++more) off vs).toArray,Z,ob.1,ob.2,hnc,hcm,?_,?_⟩⟩ (λb e=>e))
  ·rw [List.size_toArray,setsL_len,<-hcur];simpa using hcs
  ·rw [e4];show List.take (k * size) (setsL xs off vs++more)=setsL xs off vs;rw [List.take_append_of_le_length (by rw [setsL_len];omega),Al_List_take_of_length_le (by rw [setsL_len];omega)]
variable {N hn i kk:Nat} {pa:List (Nat × Oper × Value)} {E:Sl->Hp->List Res->Prop} {q:PlT} {bs':List Res}
theorem AltT.sR {g off k c size:Nat} {e:TypeId} {xs vs:List Value} (hp:ev L x=some (.pointer (some ⟨g,off,none⟩))) (hv:ev L y=some (.agg vs.toArray)) (hT:sizeN P T=some vs.length) (h1:∀ u∈vs,u.oneCell'=true)
 (hm:Upd bs (.row e size (.slice (some ⟨g,0,none⟩) k c) k xs) (.row e size (.slice (some ⟨g,0,none⟩) k c) k (setsL xs off vs)) bs') (ho:off+vs.length<=xs.length)
 (hr:RedoP dfs P ops hn w0 N L H bs' i pa) (h:FlowT dfs P ops hn w0 N E q pa L H bs'):AltT dfs P ops hn w0 N E i kk ⟨none,.store T x y,ty,pos,aft,none⟩ q pa L H bs :=
 ⟨λ_ e=>(by cases e),storeR hp hv hT h1 hm ho (AltT.into0 hr h)⟩
theorem AltT.st {b off:Nat} {l l':List Value} {t':TypeId} (hm:Upd bs (.box b l t') (.box b l' t') bs') (hp:ev L x=some (.pointer (some ⟨b,off,none⟩))) (hv:ev L y=some v) (hT:sizeN P T=some 1) (h1:v.oneCell'=true) (ho:off<l.length) (hl:l.set off v=l')
 (hr:RedoP dfs P ops hn w0 N L H bs' i pa) (h:FlowT dfs P ops hn w0 N E q pa L H bs'):AltT dfs P ops hn w0 N E i kk ⟨none,.store T x y,ty,pos,aft,none⟩ q pa L H bs :=
 ⟨λ_ e=>(by cases e),store hp hv hT h1 hm ho hl (AltT.into0 hr h)⟩
theorem AltT.apE {e:TypeId} {size bytes m c k:Nat} {p:Option Addr} {r:Value} {xs:List Value} {ds:List D} {bs':List Value->Value->List Res} (hT:rowN P T=some (e,size,bytes)) (hx:ev L x=some r)
 (hm:∀ news r',Upd bs (.row e size r k xs) (.row e size r' (k+m) (xs++news)) (bs' news r')) (hy:ev L y=some (.slice p m c)) (hr:Rep H (.seq size ds) [.slice p m c]) (hpos:0<k+m)
 (h63:k+m<=maxLen) (hb:(k+m) * bytes<=140737488355328) (ht:Nat.blt t N=true)
 (hr2:∀ news r',RedoP dfs P ops hn w0 N L H (bs' news r') i pa) (h:∀ news g c,RepZ H size ds news->FlowT dfs P ops hn w0 N E q pa ((t,.slice (some ⟨g,0,none⟩) (k+m) c)::L) H (bs' news (.slice (some ⟨g,0,none⟩) (k+m) c))) :
 AltT dfs P ops hn w0 N E i 2 ⟨some t,.call ⟨.builtin .append,#[x,y],#[T,T]⟩,ty,pos,aft,none⟩ q pa L H bs :=
 ⟨blt_of ht,appendD hT hx hm hy hr h63 hb ht λnews r' hz=>At.rs (hm news r').new hpos λg c e=>by subst e;exact AltT.into (.inr<|.inr<|hr2 _ _) (h news g c hz)⟩
theorem FlowT.fe {Q:Exit->Act->World->Prop} (h:At dfs N L H w0 bs (Q .normal)):FlowT dfs P ops hn w0 N (λL H bs=>At dfs N L H w0 bs (Q .normal)) .done pa L H bs:=h
theorem At.fx {id:Nat} {l:List Oper} {p:PlT} (nn:Nat) (p0:Pi0) (hm:P.follows .mixedOrders=true) (hB:(parE l.toArray nn && okT l.toArray nn [] [] p0)=true) (ht:fillT l p0=p)
 (h:FlowT dfs P l.toArray nn w0 n (λL H bs=>At dfs n L H w0 bs (Q .normal)) p [] L H bs):At dfs n L H w0 bs ((Code.region id l.toArray true).wp P Q):=flowTE nn p0 hm hB ht h
end
section
variable {P:Program} {L:Sl} {H:Hp} {w0:World} {bs:List Res} {d:Option Tmp} {ty:TypeId} {pos:String} {aft:Array Edge} {g:Option (Nat × Bool)} {x:Operand} {T:TypeId}
theorem Yl.neg {k:IntKind} {i c:Int} (hx:ev L x=some (.int k i)) (hw:k.wrap (0 - i)=c):Yl P L H w0 bs ⟨d,.unOp .neg T x,ty,pos,aft,g⟩ (.int k c):=.of_run λa W f _=>by
 subst hw;unfold execOp;simp [f x _ hx,Op.unary,Op.intArith]
end
section
variable {dfs:List Deferred} {n:Nat} {L:Sl} {H:Hp} {w0:World} {bs:List Res}
end
variable {t:TypeId}
theorem HUp.put {H1:Hp} {b:Nat} {arr:Array Value} (u:HUp w0 H H1) (hb:H b=none) (hw:w0.heap.size<=b):HUp w0 H (putH H1 b (.cells arr t (0,0))):=by
 refine ⟨⟨λc o e=>?_,u.up.lo⟩,λc e hc=>?_,λc o e h0=>?_⟩
 ·have:c≠b:=λh=>by subst h;rw [hb] at e;cases e
  rw [putH_ne this];exact u.up c o e
 ·rw [putH_ne (by omega)];exact u.new c e hc
 ·by_cases h:c=b
  ·subst h;rw [putH_at] at e;cases e;exact ⟨_,_,Z⟩
  ·rw [putH_ne h] at e;exact u.mark c o e h0
theorem HUp.cells {H1:Hp} {b:Nat} {arr:Array Value} {m:Nat × Nat} (u:HUp w0 H H1) (hb:H b=none) (h:H1 b=some (.cells arr t m)):H1 b=some (.cells arr t (0,0)):=by
 obtain ⟨arr',t',e⟩:=u.mark b _ h hb;cases e;exact h
def Hp.at (H:Hp) (n:Nat):Hp:=⟨H.get,n⟩
section
variable {P:Program}
end
section
variable {dfs:List Deferred} {P:Program} {n:Nat} {L:Sl} {H:Hp} {w0:World} {bs:List Res} {Q:Exit->Act->World->Prop} {ops:Array Oper} {rest:List Oper} {K:Act->World->Prop}
variable {ty:TypeId} {pos:String} {aft:Array Edge} {t:Tmp} {x y:Operand} {T:TypeId}
end
section
variable {P:Program} {H:Hp} {w0 W:World} {bs:List Res}
end
section
variable {dfs:List Deferred} {P:Program} {n N hn i:Nat} {L:Sl} {H:Hp} {w0:World} {bs:List Res} {Q:Exit->Act->World->Prop} {ops:Array Oper} {rest:List Oper} {K:Act->World->Prop}
variable {ty:TypeId} {pos:String} {aft:Array Edge} {t:Tmp} {x y:Operand} {T:TypeId} {pa:List (Nat × Oper × Value)} {E:Sl->Hp->List Res->Prop} {fr:List (Nat × Nat × Oper)}
end
section
variable {dfs:List Deferred} {P:Program} {n:Nat} {L:Sl} {H:Hp} {w0:World} {bs:List Res} {Q:Exit->Act->World->Prop} {ops:Array Oper} {rest:List Oper} {K:Act->World->Prop}
variable {d:Option Tmp} {ty:TypeId} {pos:String} {aft:Array Edge} {v:Value} {t:Tmp} {x y:Operand} {T:TypeId}
theorem At.rcut {e:TypeId} {size k m g c:Nat} {xs ys:List Value} {bs':List Res} {G:Act->World->Prop} (hm:Upd bs (.row e size (.slice (some ⟨g,0,none⟩) k c) k xs) (.row e size (.slice (some ⟨g,0,none⟩) m c) m ys) bs') (hk:m<=k) (hy:ys=xs.take (m * size)) (h:At dfs n L H w0 bs' G):At dfs n L H w0 bs G:=λa W f s=>by
 have ho:W.ownsRow w0.heap.size e size (.slice (some ⟨g,0,none⟩) k c) k xs:=(s.own _ hm.mem).1;rcases ho.2 with ⟨hr,_⟩ | ⟨g',cap,cur,hr,hbg,hgc,hnc,hcm,hcs,htake⟩
 ·cases hr
 ·injection hr with e1 _ e3
  injection e1 with e1
  injection e1 with e1
  subst e1 e3;have hms:m * size<=k * size:=Al_Nat_mul_le_mul_right size hk;have hl:=ho.1;refine h a W f (s.put1 hm ⟨?_,.inr ⟨g,c,cur,Z,hbg,hgc,by omega,hcm,hcs,?_⟩⟩ (λb e=>e))
  ·rw [hy,Al_List_length_take];omega
  ·rw [hy,<-htake,List.take_take,Al_Nat_min_eq_left hms]
theorem storeR1 {g off k c size:Nat} {e:TypeId} {xs:List Value} {v:Value} {bs':List Res} (hp:ev L x=some (.pointer (some ⟨g,off,none⟩))) (hv:ev L y=some v) (hT:sizeN P T=some 1) (h1:v.oneCell'=true)
 (hm:Upd bs (.row e size (.slice (some ⟨g,0,none⟩) k c) k xs) (.row e size (.slice (some ⟨g,0,none⟩) k c) k (xs.set off v)) bs') (ho:off<xs.length) (h:At dfs n L H w0 bs' K) :
 At dfs n L H w0 bs (one P ops Q ⟨none,.store T x y,ty,pos,aft,none⟩ K):=by
 intro a W f s;have ho1:W.ownsRow w0.heap.size e size (.slice (some ⟨g,0,none⟩) k c) k xs:=(s.own _ hm.mem).1;rcases ho1.2 with ⟨hr,_⟩ | ⟨g',cap,cur,hr,hbg,hgc,hnc,hcm,hcs,htake⟩
 ·cases hr
 ·injection hr with e1 _ e3
  injection e1 with e1
  injection e1 with e1
  subst e1 e3;obtain ⟨more,hmo⟩:∃ more,more=cur.toList.drop (k * size):=⟨_,Z⟩;have hcur:cur.toList=xs++more:=by rw [hmo,<-htake,Al_List_take_append_drop]
  have hcur2:cur=(xs++more).toArray:=by rw [<-hcur]
  obtain ⟨b1,u1,u2⟩:=hm.mid (.box g (xs++more) e);obtain ⟨b2,u3,u4⟩:=u2.mid (.box g ((xs++more).set off v) e);have s1:St H w0 b1 W:=s.put1 u1 ⟨hbg,by rw [hgc,<-hcur2]⟩ (λb e=>e);refine store hp hv hT h1 u3 (by rw [Al_List_length_append];omega) rfl ?_ a W f s1;intro a W f s2;have ob:=(s2.own _ u4.mem).1;have e4:(xs++more).set off v=xs.set off v++more:=List.set_append_left off v ho;have hz:xs.length=k * size:=ho1.1;refine h a W f (s2.put1 u4 ⟨by rw [List.length_set];exact hz,.inr ⟨g,c,((xs++more).set off v).toArray,Z,ob.1,ob.2,hnc,hcm,?_,?_⟩⟩ (λb e=>e))
  ·rw [List.size_toArray,List.length_set,<-hcur];simpa using hcs
  ·rw [e4];show List.take (k * size) (xs.set off v++more)=xs.set off v;rw [List.take_append_of_le_length (by rw [List.length_set];omega),Al_List_take_of_length_le (by rw [List.length_set];omega)]
theorem At.s1R {g off k c size:Nat} {e:TypeId} {xs:List Value} {v:Value} {bs':List Res} (hp:ev L x=some (.pointer (some ⟨g,off,none⟩))) (hv:ev L y=some v) (hT:sizeN P T=some 1) (h1:v.oneCell'=true)
 (hm:Upd bs (.row e size (.slice (some ⟨g,0,none⟩) k c) k xs) (.row e size (.slice (some ⟨g,0,none⟩) k c) k (xs.set off v)) bs') (ho:off<xs.length) (h:At dfs n L H w0 bs' (wpList P ops Q rest)) :
 At dfs n L H w0 bs (wpList P ops Q (⟨none,.store T x y,ty,pos,aft,none⟩::rest)):=cons (storeR1 hp hv hT h1 hm ho h)
end
end Go.Sx
namespace Go.Proofs.YtidclioghdbphaaGreatDoor
open Go.RowKit Go.Par Go.Sx Tryz
theorem Fx.agg32:aggN prg 32=some none:=by kernel_rfl
theorem Fx.agg76:aggN prg 76=some (some 4):=by kernel_rfl
theorem Fx.call73:callN prg 73=true:=by kernel_rfl
theorem Fx.field76_3:fieldN prg 76 3=some 3:=by kernel_rfl
theorem Fx.sl32:slN prg 32=some 4:=by kernel_rfl
theorem exprDepth_any (e:Ex):∀ (H:Hp) (cs:List Value) (w:World),Rep H (dEx .u8 e) cs->e.depth<=1000000->Agr H w ->
 Calls prg 73 #[.agg cs.toArray] w λr w'=>r=.returned (iN e.depth)/\Ext w w':=by
 induction e using Ex.ind with | _ op nm nn args ih
 intro H cs w h he hA;rw [depth_mk] at he;obtain ⟨p,c,rfl,hs,hnm⟩:=ex_open h;have hcap:=hs.cap;refine Sx.enter (H:=H) func73 rfl ntmps73 rfl hA ?_;refine .sr<|.bx Z Z Z λb1=>.a Z Z<|.ns<|.aq Z<|.sq<|.sr<|.fA Z Fx.field76_3<|.lD Z Fx.agg32 Hm Z<|.yw (.lenSl Fx.sl32 Z)<|.mv Z<|.nt<|.bk<|.lp (X:=Nat) [(1,_),(7,_)] ⟨Z,Z,Jt⟩ [_] (λk=>[(3,iN (Ex.deeps (args.take k))),(8,iN k)]) (λk=>H) (λk=>[]) (λk=>k<=args.length) (λk=>args.length - k) 0 (λ_ s=>s) ⟨Z,Z,Jt⟩ (by omega) λk hC=>?_
 refine .sr<|.yw (.lss Z Z)<|.nt<|.sq<|.ce Z (λh9=>?_) (λh9=>?_)
 ·have hk:k<args.length:=by omega
  obtain ⟨b5,o5,c5,hp5,r5,l5,m5⟩:=hs.elem (map_at hk);cases hp5;have h1:=deeps_take args k;have h2:=deeps_at hk;have h3:=deeps_succ hk;exact .sk<|.tN<|.sq<|.bk<|.sm Z<|.aq Z<|.rg<|.mv Z<|.fA Z Fx.field76_3<|.lD Z Fx.agg32 Hm Z<|.mv Z<|.yw (.indexSl Fx.sl32 Z Z Z (by omega) (q:=o5+k * 4) Z)<|.yw (.loadMW Z Fx.agg76 m5 l5)<|.yw (.call Fx.call73 Z (λW s=>ih _ (Al_List_getElem_mem hk) H c5 W r5 (by omega) s.agr))<|.yw (.max2 Z Z (c:=((Ex.deeps (args.take (k+1)):Nat):Int)) (by omega))<|.a Z Z<|.nl<|.bN<|.tN<|.rg<|.yw (.add Z Z w7)<|.mv Z<|.nt<|.ag (k+1) ⟨Z,Z,Jt⟩ ⟨Z,Z,Jt⟩ (λ_ s=>s) (by omega) (by omega)
 obtain rfl:k=args.length:=by omega
 rw [Al_List_take_length];refine .ex<|.eb<|.sm Z<|.yw (.add Z Z w7)<|.az Z<|?_
 exact y9 Z Z λW s=>⟨by rw [depth_mk];rfl,s.ext⟩
theorem Fx.agg235:aggN prg 235=some (some 39):=by kernel_rfl
theorem Fx.are235:arrE prg 235=true:=by kernel_rfl
theorem Fx.arr235:arrN prg 235=some (39,1):=by kernel_rfl
theorem Fx.call150:callN prg 150=true:=by kernel_rfl
theorem Fx.call153:callN prg 153=true:=by kernel_rfl
theorem Fx.call179:callN prg 179=true:=by kernel_rfl
theorem Fx.str9:isStr prg 9=true:=by kernel_rfl
theorem letter_any (c:UInt8) (w:World):Calls prg 150 #[byteV c] w λr w'=>r=.returned (.bool (letB c))/\Ext w w':=by
 refine y6 func150 Z ntmps150 Z ?_;refine .sr<|.a Z Z<|.ns<|.mv Z<|.yw (.geq Z Z)<|.mv Z<|.e2 (λh5=>?_) (λh5=>?_)
 ·refine .gy (.move Z)<|.gy (.leq Z Z)<|.yw (.pickT Z Z)<|.mv Z<|.e2 (λh9=>?_) (λh9=>?_)
  ·refine .gG<|.gG<|.gG<|.gV<|.gV<|.gG<|.yw (.pickT Z Z)<|.az Z<|?_
   exact y9 Z Z λW s=>⟨retB (by simp only [letB,Al_Bool_or_eq_true,Al_Bool_and_eq_true,Al_decide_eq_true_eq,reduceCtorEq,Al_true_iff,Al_false_iff,Al_iff_true,Al_iff_false,Al_beq_iff_eq,Al_Bool_true_eq_false,Al_Bool_false_eq_true];try omega),s.ext⟩
  refine .gy (.move Z)<|.gy (.geq Z Z)<|.gy (.move Z)<|.b2 (λh12=>?_) (λh12=>?_)
  ·try simp only [dt] at h12
   refine .gy (.move Z)<|.gy (.leq Z Z)<|.gy (.pickT Z Z)<|.yw (.pickF Z Z)<|.az Z<|?_
   exact y9 Z Z λW s=>⟨retB (by simp only [letB,Al_Bool_or_eq_true,Al_Bool_and_eq_true,Al_decide_eq_true_eq,reduceCtorEq,Al_true_iff,Al_false_iff,Al_iff_true,Al_iff_false,Al_beq_iff_eq,Al_Bool_true_eq_false,Al_Bool_false_eq_true];try omega),s.ext⟩
  try simp only [df] at h12
  refine .gG<|.gG<|.gy (.pickF Z Z)<|.yw (.pickF Z Z)<|.az Z<|?_
  exact y9 Z Z λW s=>⟨retB (by simp only [letB,Al_Bool_or_eq_true,Al_Bool_and_eq_true,Al_decide_eq_true_eq,reduceCtorEq,Al_true_iff,Al_false_iff,Al_iff_true,Al_iff_false,Al_beq_iff_eq,Al_Bool_true_eq_false,Al_Bool_false_eq_true];try omega),s.ext⟩
 refine .gG<|.gG<|.yw (.pickF Z Z)<|.mv Z<|.gy (.move Z)<|.gy (.geq Z Z)<|.gy (.move Z)<|.b2 (λh12=>?_) (λh12=>?_)
 ·try simp only [dt] at h12
  refine .gy (.move Z)<|.gy (.leq Z Z)<|.gy (.pickT Z Z)<|.yw (.pickF Z Z)<|.az Z<|?_
  exact y9 Z Z λW s=>⟨retB (by simp only [letB,Al_Bool_or_eq_true,Al_Bool_and_eq_true,Al_decide_eq_true_eq,reduceCtorEq,Al_true_iff,Al_false_iff,Al_iff_true,Al_iff_false,Al_beq_iff_eq,Al_Bool_true_eq_false,Al_Bool_false_eq_true];try omega),s.ext⟩
 try simp only [df] at h12
 refine .gG<|.gG<|.gy (.pickF Z Z)<|.yw (.pickF Z Z)<|.az Z<|?_
 exact y9 Z Z λW s=>⟨retB (by simp only [letB,Al_Bool_or_eq_true,Al_Bool_and_eq_true,Al_decide_eq_true_eq,reduceCtorEq,Al_true_iff,Al_false_iff,Al_iff_true,Al_iff_false,Al_beq_iff_eq,Al_Bool_true_eq_false,Al_Bool_false_eq_true];try omega),s.ext⟩
theorem digit_any (c:UInt8) (w:World):Calls prg 153 #[byteV c] w λr w'=>r=.returned (.bool (digB c))/\Ext w w':=by
 refine y6 func153 Z ntmps153 Z ?_;refine .sr<|.a Z Z<|.ns<|.mv Z<|.yw (.geq Z Z)<|.mv Z<|.e2 (λh5=>?_) (λh5=>?_)
 ·refine .gy (.move Z)<|.gy (.leq Z Z)<|.yw (.pickT Z Z)<|.az Z<|?_
  exact y9 Z Z λW s=>⟨retB (by simp only [digB,Al_Bool_or_eq_true,Al_Bool_and_eq_true,Al_decide_eq_true_eq,reduceCtorEq,Al_true_iff,Al_false_iff,Al_iff_true,Al_iff_false,Al_beq_iff_eq,Al_Bool_true_eq_false,Al_Bool_false_eq_true];try omega),s.ext⟩
 refine .gG<|.gG<|.yw (.pickF Z Z)<|.az Z<|?_
 exact y9 Z Z λW s=>⟨retB (by simp only [digB,Al_Bool_or_eq_true,Al_Bool_and_eq_true,Al_decide_eq_true_eq,reduceCtorEq,Al_true_iff,Al_false_iff,Al_iff_true,Al_iff_false,Al_beq_iff_eq,Al_Bool_true_eq_false,Al_Bool_false_eq_true];try omega),s.ext⟩
theorem inside_any (c:UInt8) (w:World):Calls prg 151 #[byteV c] w λr w'=>r=.returned (.bool (insB c))/\Ext w w':=by
 refine y6 func151 Z ntmps151 Z ?_;refine .sr<|.a Z Z<|.ns<|.mv Z<|.yw (.call Fx.call150 Z (λW s=>letter_any c W))<|.mv Z<|.b2 (λh5=>?_) (λh5=>?_)
 ·refine .gG<|.gG<|.yw (.pickT Z Z)<|.mv Z<|.gG<|.gG<|.yw (.pickT Z Z)<|.az Z<|?_
  exact y9 Z Z λW s=>⟨retB (by simp_all [insB];try omega),s.ext⟩
 refine .gy (.move Z)<|.gy (.call Fx.call153 Z (λW s=>digit_any c W))<|.yw (.pickF Z Z)<|.mv Z<|.b2 (λh9=>?_) (λh9=>?_)
 ·refine .gG<|.gG<|.yw (.pickT Z Z)<|.az Z<|?_
  exact y9 Z Z λW s=>⟨retB (by simp_all [insB];try omega),s.ext⟩
 refine .gy (.move Z)<|.gy (.eql Z Z)<|.yw (.pickF Z Z)<|.az Z<|?_
 exact y9 Z Z λW s=>⟨retB (by simp_all [insB];try omega),s.ext⟩
theorem prefix_any (gf:FuncId) (q:UInt8->Bool) (hf:callN prg gf=true) (hg:∀ b w,Calls prg gf #[byteV b] w λr w'=>r=.returned (.bool (q b))/\Ext w w') (l:Str) (hl:l.length<=9223372036854775807) (w:World) :
 Calls prg 146 #[strV l,.func (.func gf) #[] #[]] w λr w'=>r=.returned (iN (pre q l))/\Ext w w':=by
 refine y6 func146 Z ntmps146 Z ?_;refine .sr<|.a Z Z<|.ns<|.aq Z<|.sq<|.bk<|.lp (X:=Nat) [(0,_),(1,_)] ⟨Z,Z,Jt⟩ [] (λk=>[(5,iN k)]) (λk=>(⟨λ_=>none,0⟩:Hp)) (λk=>[]) (λk=>k<=pre q l) (λk=>l.length - k) 0 (λ_ s=>s) ⟨Z,Jt⟩ (by omega) λk hC=>?_
 have hp:=pre_le q l;refine .sq<|.sm Z<|.mv Z<|.yw (.lenS Fx.str9 Z)<|.yw (.lss Z Z)<|.mv Z<|.e2 (λh10=>?_) (λh10=>?_)
 ·have hk:k<l.length:=by omega
  refine .gy (.move Z)<|.gy (.move Z)<|.gy (.move Z)<|.gy (.idxS Fx.str9 Z Z Z (List.getElem?_eq_getElem hk))<|.gy (.callV (fi:=[]) (ca:=[]) Z hf Z (λW s=>hg _ W))<|.yw (.pickT Z Z)<|.nt<|.cd Z (λh16=>?_) (λh16=>?_)
  ·exact .sk<|.tN<|.bk<|.rg<|.mv Z<|.yw (.add Z Z w7)<|.a Z Z<|.nl<|.bN<|.tN<|.ag (k+1) ⟨Z,Jt⟩ ⟨Z,Z,Jt⟩ (λ_ s=>s) (pre_step hk hC (by simpa using h16)) (by omega)
  refine .ex<|.eb<|.sm Z<|.az Z<|?_
  first
   | exact y9 Z Z λW s=>⟨by rw [show k=pre q l by omega],s.ext⟩
   | exact y9 Z Z λW s=>⟨by rw [pre_stop hk hC (by simpa using h16)],s.ext⟩
 refine .gG<|.gG<|.gG<|.gG<|.gG<|.yw (.pickF Z Z)<|.nt<|.cF Z<|.ex<|.eb<|.sm Z<|.az Z<|?_
 first
  | exact y9 Z Z λW s=>⟨by rw [show k=pre q l by omega],s.ext⟩
  | exact y9 Z Z λW s=>⟨by rw [pre_stop hk hC (by simpa using h16)],s.ext⟩
theorem keyword_any (H:Hp) (G:Gl H) (l:Str) (w:World) (hA:Agr H w) :
 Calls prg 152 #[strV l] w λr w'=>r=.returned (.bool (words.contains l))/\Ext w w':=by
 refine Sx.enter (H:=H) func152 rfl ntmps152 rfl hA ?_;refine .sr<|.aq Z<|.sq<|.sr<|.yw (.loadMW Z Fx.agg235 G.words Z)<|.mv Z<|.nt<|.bk<|.lp (X:=Nat) [(0,_),(5,_)] ⟨Z,Z,Jt⟩ [] (λk=>[(6,iN k)]) (λk=>H) (λk=>[]) (λk=>k<=39/\∀ j,j<k->words.getD j []≠l) (λk=>39 - k) 0 (λ_ s=>s) ⟨Z,Jt⟩ ⟨by omega,λj hj=>by omega⟩ λk hC=>?_
 obtain ⟨hk,hne⟩:=hC;refine .sr<|.yw (.lss Z Z)<|.nt<|.sq<|.ce Z (λh7=>?_) (λh7=>?_)
 ·refine .sk<|.tN<|.sq<|.bk<|.sr<|.yw (.idxA Fx.arr235 Fx.are235 Z Z Z (by omega) (list_at (by show k<39;omega) []))<|.a Z Z<|.ns<|.mv Z<|.mv Z<|.yw (.eqS Z Z)<|.nt<|.ce Z (λh11=>?_) (λh11=>?_)
  ·have hmem:l∈words:=by
    rw [<-h11,getD_at (show k<words.length by show k<39;omega)];exact Al_List_getElem_mem _
   refine .sr<|.az Z<|.bR<|.tR<|.tR<|.bR<|.tR<|?_
   exact y9 Z Z λW s=>⟨retB (by simp [Al_List_contains_iff_mem, *]),s.ext⟩
  exact .sk<|.bN<|.tN<|.rg<|.yw (.add Z Z w7)<|.mv Z<|.nt<|.ag (k+1) ⟨Z,Jt⟩ ⟨Z,Z,Jt⟩ (λ_ s=>s) ⟨by omega,λj hj=>by
   by_cases e:j=k
   ·subst e;exact h11
   ·exact hne j (by omega)⟩ (by omega)
 have hno:l ∉ words:=λhm=>by
  obtain ⟨j,hj,e⟩:=Al_List_mem_iff_getElem.1 hm;have hj2:j<39:=hj;exact hne j (by omega) (by rw [getD_at hj];exact e)
 refine .ex<|.eb<|.sr<|.az Z<|?_
 exact y9 Z Z λW s=>⟨retB (by simp [Al_List_contains_iff_mem, *]),s.ext⟩
theorem hasPrefixL_any (l m:Str) (w:World):Calls prg 179 #[strV l,strV m] w λr w'=>r=.returned (.bool (hasP l m))/\Ext w w':=by
 refine y6 func179 Z ntmps179 Z ?_;refine .sr<|.a Z Z<|.ns<|.mv Z<|.yw (.lenS Fx.str9 Z)<|.mv Z<|.yw (.lenS Fx.str9 Z)<|.yw (.geq Z Z)<|.mv Z<|.e2 (λh10=>?_) (λh10=>?_)
 ·refine .gy (.move Z)<|.gy (.move Z)<|.gy (.lenS Fx.str9 Z)<|.gy (.takeS Fx.str9 Z Z Z (by omega))<|.gy (.move Z)<|.gy (.eqS Z Z)<|.yw (.pickT Z Z)<|.az Z<|?_
  exact y9 Z Z λW s=>⟨retB (by first | (simp only [hasP,Al_Bool_or_eq_true,Al_Bool_and_eq_true,Al_decide_eq_true_eq,reduceCtorEq,Al_true_iff,Al_false_iff,Al_iff_true,Al_iff_false,Al_beq_iff_eq,Al_Bool_true_eq_false,Al_Bool_false_eq_true];omega) | exact ⟨λe=>by simp only [hasP,Al_Bool_or_eq_true,Al_Bool_and_eq_true,Al_decide_eq_true_eq,reduceCtorEq,Al_true_iff,Al_false_iff,Al_iff_true,Al_iff_false,Al_beq_iff_eq,Al_Bool_true_eq_false,Al_Bool_false_eq_true] at e|-;exact ⟨by omega,e⟩,λe=>by simp only [hasP,Al_Bool_or_eq_true,Al_Bool_and_eq_true,Al_decide_eq_true_eq,reduceCtorEq,Al_true_iff,Al_false_iff,Al_iff_true,Al_iff_false,Al_beq_iff_eq,Al_Bool_true_eq_false,Al_Bool_false_eq_true] at e|-;exact e.2⟩),s.ext⟩
 refine .gG<|.gG<|.gG<|.gG<|.gG<|.gG<|.yw (.pickF Z Z)<|.az Z<|?_
 exact y9 Z Z λW s=>⟨retB (by first | (simp only [hasP,Al_Bool_or_eq_true,Al_Bool_and_eq_true,Al_decide_eq_true_eq,reduceCtorEq,Al_true_iff,Al_false_iff,Al_iff_true,Al_iff_false,Al_beq_iff_eq,Al_Bool_true_eq_false,Al_Bool_false_eq_true];omega) | exact ⟨λe=>by simp only [hasP,Al_Bool_or_eq_true,Al_Bool_and_eq_true,Al_decide_eq_true_eq,reduceCtorEq,Al_true_iff,Al_false_iff,Al_iff_true,Al_iff_false,Al_beq_iff_eq,Al_Bool_true_eq_false,Al_Bool_false_eq_true] at e|-;exact ⟨by omega,e⟩,λe=>by simp only [hasP,Al_Bool_or_eq_true,Al_Bool_and_eq_true,Al_decide_eq_true_eq,reduceCtorEq,Al_true_iff,Al_false_iff,Al_iff_true,Al_iff_false,Al_beq_iff_eq,Al_Bool_true_eq_false,Al_Bool_false_eq_true] at e|-;exact e.2⟩),s.ext⟩
theorem hasPrefix_any (l m:Str) (w:World):Calls prg 148 #[strV l,strV m] w λr w'=>r=.returned (.bool (hasP l m))/\Ext w w':=by
 refine y6 func148 Z ntmps148 Z ?_;refine .sr<|.a Z Z<|.ns<|.mv Z<|.mv Z<|.yw (.call Fx.call179 Z (λW s=>hasPrefixL_any l m W))<|.az Z<|?_
 exact y9 Z Z λW s=>⟨Z,s.ext⟩
theorem Fx.agg217:aggN prg 217=some (some 25):=by kernel_rfl
theorem Fx.are217:arrE prg 217=true:=by kernel_rfl
theorem Fx.arr217:arrN prg 217=some (25,1):=by kernel_rfl
theorem Fx.call97:callN prg 97=true:=by kernel_rfl
theorem Fx.call146:callN prg 146=true:=by kernel_rfl
theorem Fx.call148:callN prg 148=true:=by kernel_rfl
theorem Fx.call151:callN prg 151=true:=by kernel_rfl
theorem Fx.call152:callN prg 152=true:=by kernel_rfl
variable {k:Nat}
theorem sym_find {l:Str} (hk:k<25) (h0:∀ j,j<k->hasP l (symbols.getD j [])=false) (h1:hasP l (symbols.getD k [])=true):symbols.find? (λx=>x.isPrefixOf l)=some (symbols.getD k []):=by
 have hk':k<symbols.length:=hk;rw [getD_at hk'] at h1|-;rw [hasP_pre] at h1;refine List.find?_eq_some_iff_getElem.2 ⟨h1,k,hk',Z,λj hj=>?_⟩;have:=h0 j hj;rw [getD_at (by omega),hasP_pre] at this;simp [this]
theorem sym_none {l:Str} (h0:∀ j,j<25->hasP l (symbols.getD j [])=false):symbols.find? (λx=>x.isPrefixOf l)=none:=by
 rw [List.find?_eq_none];intro x hx;obtain ⟨j,hj,rfl⟩:=Al_List_mem_iff_getElem.1 hx;have:=h0 j hj;rw [getD_at hj,hasP_pre] at this;simp [this]
theorem read_any (H:Hp) (G:Gl H) (l:Str) (hl:l.length<=9223372036854775807) (h0:l≠[]) (w:World) (hA:Agr H w) :
 Calls prg 97 #[strV l] w λe w'=>e=.returned (.tuple #[.int .u8 ((readK l).1.toNat:Nat),iN ((readK l).2)])/\Ext w w':=by
 match l,h0 with
 | c::r,_ =>
 refine Sx.enter (H:=H) func97 rfl ntmps97 rfl hA ?_;refine .sr<|.a Z Z<|.aq Z<|.sq<|.sm Z<|.yw (.idxS Fx.str9 Z Z Z (b:=c) (j:=0) Z)<|.aq Z<|.bk<|.sm Z<|.yw (.call Fx.call150 Z (λW s=>letter_any c W))<|.aq Z<|.cd Z (λh21=>?_) (λh21=>?_)
 ·refine .sm Z<|.yw (.call Fx.call146 Z (λW s=>prefix_any 151 insB Fx.call151 inside_any (c::r) hl W))<|.aq Z<|.sq<|.sm Z<|.mv Z<|.yw (.takeS Fx.str9 Z Z Z (pre_le _ _))<|.yw (.call Fx.call152 Z (λW s=>keyword_any H G _ W s.agr))<|.nt<|.cd Z (λh29=>?_) (λh29=>?_)
  ·refine .sm Z<|.a Z Z<|.az Z<|.tR<|.bR<|.tR<|?_
   first
    | exact y7 Z (.cons (.tmp rfl) (.cons (.tmp rfl) .nil)) rfl λW s=>⟨by simp only [readK,Al_List_headD_cons,h21,h29,Al_if_true];rfl,s.ext⟩
    | exact y7 Z (.cons (.tmp rfl) (.cons (.tmp rfl) .nil)) rfl λW s=>⟨by simp only [readK,Al_List_headD_cons,h21,h29,Al_if_true,Al_Bool_false_eq_true,Al_if_false,show pre insB (c::r)<=12 by omega];rfl,s.ext⟩
    | exact y7 Z (.cons (.tmp rfl) (.cons (.tmp rfl) .nil)) rfl λW s=>⟨by simp only [readK,Al_List_headD_cons,h21,h29,Al_if_true,Al_Bool_false_eq_true,Al_if_false,show ¬ pre insB (c::r)<=12 by omega];rfl,s.ext⟩
    | exact y7 Z (.cons (.tmp rfl) (.cons (.tmp rfl) .nil)) rfl λW s=>⟨by simp only [readK,Al_List_headD_cons,h21,h34,Al_if_true,Al_Bool_false_eq_true,Al_if_false,hor];rfl,s.ext⟩
    | exact y7 Z (.cons (.tmp rfl) (.cons (.tmp rfl) .nil)) rfl λW s=>⟨by simp only [readK,Al_List_headD_cons,h21,h34,Al_Bool_false_eq_true,Al_if_false,hfind];rfl,s.ext⟩
  refine .sk<|.tN<|.sm Z<|.yw (.leq Z Z)<|.nt<|.ce Z (λh32=>?_) (λh32=>?_)
  ·refine .sm Z<|.a Z Z<|.az Z<|.bR<|.tR<|?_
   first
    | exact y7 Z (.cons (.tmp rfl) (.cons (.tmp rfl) .nil)) rfl λW s=>⟨by simp only [readK,Al_List_headD_cons,h21,h29,Al_if_true];rfl,s.ext⟩
    | exact y7 Z (.cons (.tmp rfl) (.cons (.tmp rfl) .nil)) rfl λW s=>⟨by simp only [readK,Al_List_headD_cons,h21,h29,Al_if_true,Al_Bool_false_eq_true,Al_if_false,show pre insB (c::r)<=12 by omega];rfl,s.ext⟩
    | exact y7 Z (.cons (.tmp rfl) (.cons (.tmp rfl) .nil)) rfl λW s=>⟨by simp only [readK,Al_List_headD_cons,h21,h29,Al_if_true,Al_Bool_false_eq_true,Al_if_false,show ¬ pre insB (c::r)<=12 by omega];rfl,s.ext⟩
    | exact y7 Z (.cons (.tmp rfl) (.cons (.tmp rfl) .nil)) rfl λW s=>⟨by simp only [readK,Al_List_headD_cons,h21,h34,Al_if_true,Al_Bool_false_eq_true,Al_if_false,hor];rfl,s.ext⟩
    | exact y7 Z (.cons (.tmp rfl) (.cons (.tmp rfl) .nil)) rfl λW s=>⟨by simp only [readK,Al_List_headD_cons,h21,h34,Al_Bool_false_eq_true,Al_if_false,hfind];rfl,s.ext⟩
  refine .sk<|.bN<|.tN<|.sm Z<|.yw (.lenS Fx.str9 Z)<|.a Z Z<|.az Z<|?_
  first
   | exact y7 Z (.cons (.tmp rfl) (.cons (.tmp rfl) .nil)) rfl λW s=>⟨by simp only [readK,Al_List_headD_cons,h21,h29,Al_if_true];rfl,s.ext⟩
   | exact y7 Z (.cons (.tmp rfl) (.cons (.tmp rfl) .nil)) rfl λW s=>⟨by simp only [readK,Al_List_headD_cons,h21,h29,Al_if_true,Al_Bool_false_eq_true,Al_if_false,show pre insB (c::r)<=12 by omega];rfl,s.ext⟩
   | exact y7 Z (.cons (.tmp rfl) (.cons (.tmp rfl) .nil)) rfl λW s=>⟨by simp only [readK,Al_List_headD_cons,h21,h29,Al_if_true,Al_Bool_false_eq_true,Al_if_false,show ¬ pre insB (c::r)<=12 by omega];rfl,s.ext⟩
   | exact y7 Z (.cons (.tmp rfl) (.cons (.tmp rfl) .nil)) rfl λW s=>⟨by simp only [readK,Al_List_headD_cons,h21,h34,Al_if_true,Al_Bool_false_eq_true,Al_if_false,hor];rfl,s.ext⟩
   | exact y7 Z (.cons (.tmp rfl) (.cons (.tmp rfl) .nil)) rfl λW s=>⟨by simp only [readK,Al_List_headD_cons,h21,h34,Al_Bool_false_eq_true,Al_if_false,hfind];rfl,s.ext⟩
 refine .sm Z<|.yw (.call Fx.call153 Z (λW s=>digit_any c W))<|.aq Z<|.cd Z (λh34=>?_) (λh34=>?_)
 ·refine .sm Z<|.yw (.call Fx.call146 Z (λW s=>prefix_any 153 digB Fx.call153 digit_any (c::r) hl W))<|.a Z Z<|.ns<|.mv Z<|.yw (.eql Z Z)<|.mv Z<|.e2 (λh41=>?_) (λh41=>?_)
  ·have hor:(pre digB (c::r)=1\/c≠48)=True:=eq_true (.inl (by omega));refine .gG<|.gG<|.yw (.pickT Z Z)<|.nt<|.cT Z<|.sm Z<|.a Z Z<|.az Z<|.bR<|.tR<|?_
   first
    | exact y7 Z (.cons (.tmp rfl) (.cons (.tmp rfl) .nil)) rfl λW s=>⟨by simp only [readK,Al_List_headD_cons,h21,h29,Al_if_true];rfl,s.ext⟩
    | exact y7 Z (.cons (.tmp rfl) (.cons (.tmp rfl) .nil)) rfl λW s=>⟨by simp only [readK,Al_List_headD_cons,h21,h29,Al_if_true,Al_Bool_false_eq_true,Al_if_false,show pre insB (c::r)<=12 by omega];rfl,s.ext⟩
    | exact y7 Z (.cons (.tmp rfl) (.cons (.tmp rfl) .nil)) rfl λW s=>⟨by simp only [readK,Al_List_headD_cons,h21,h29,Al_if_true,Al_Bool_false_eq_true,Al_if_false,show ¬ pre insB (c::r)<=12 by omega];rfl,s.ext⟩
    | exact y7 Z (.cons (.tmp rfl) (.cons (.tmp rfl) .nil)) rfl λW s=>⟨by simp only [readK,Al_List_headD_cons,h21,h34,Al_if_true,Al_Bool_false_eq_true,Al_if_false,hor];rfl,s.ext⟩
    | exact y7 Z (.cons (.tmp rfl) (.cons (.tmp rfl) .nil)) rfl λW s=>⟨by simp only [readK,Al_List_headD_cons,h21,h34,Al_Bool_false_eq_true,Al_if_false,hfind];rfl,s.ext⟩
  refine .gy (.move Z)<|.gy (.neq Z Z)<|.yw (.pickF Z Z)<|.nt<|.ce Z (λh44=>?_) (λh44=>?_)
  ·have hor:(pre digB (c::r)=1\/c≠48)=True:=eq_true (.inr λe=>h44 (by rw [e];rfl));refine .sm Z<|.a Z Z<|.az Z<|.bR<|.tR<|?_
   first
    | exact y7 Z (.cons (.tmp rfl) (.cons (.tmp rfl) .nil)) rfl λW s=>⟨by simp only [readK,Al_List_headD_cons,h21,h29,Al_if_true];rfl,s.ext⟩
    | exact y7 Z (.cons (.tmp rfl) (.cons (.tmp rfl) .nil)) rfl λW s=>⟨by simp only [readK,Al_List_headD_cons,h21,h29,Al_if_true,Al_Bool_false_eq_true,Al_if_false,show pre insB (c::r)<=12 by omega];rfl,s.ext⟩
    | exact y7 Z (.cons (.tmp rfl) (.cons (.tmp rfl) .nil)) rfl λW s=>⟨by simp only [readK,Al_List_headD_cons,h21,h29,Al_if_true,Al_Bool_false_eq_true,Al_if_false,show ¬ pre insB (c::r)<=12 by omega];rfl,s.ext⟩
    | exact y7 Z (.cons (.tmp rfl) (.cons (.tmp rfl) .nil)) rfl λW s=>⟨by simp only [readK,Al_List_headD_cons,h21,h34,Al_if_true,Al_Bool_false_eq_true,Al_if_false,hor];rfl,s.ext⟩
    | exact y7 Z (.cons (.tmp rfl) (.cons (.tmp rfl) .nil)) rfl λW s=>⟨by simp only [readK,Al_List_headD_cons,h21,h34,Al_Bool_false_eq_true,Al_if_false,hfind];rfl,s.ext⟩
  have hor:(pre digB (c::r)=1\/c≠48)=False:=eq_false λh=>by
   rcases h with h | h
   ·omega
   ·exact h (Al_UInt8_toNat_inj.1 (by show c.toNat=48;simp at h44;omega))
  refine .sk<|.bN<|.tN<|.sm Z<|.yw (.lenS Fx.str9 Z)<|.a Z Z<|.az Z<|?_
  first
   | exact y7 Z (.cons (.tmp rfl) (.cons (.tmp rfl) .nil)) rfl λW s=>⟨by simp only [readK,Al_List_headD_cons,h21,h29,Al_if_true];rfl,s.ext⟩
   | exact y7 Z (.cons (.tmp rfl) (.cons (.tmp rfl) .nil)) rfl λW s=>⟨by simp only [readK,Al_List_headD_cons,h21,h29,Al_if_true,Al_Bool_false_eq_true,Al_if_false,show pre insB (c::r)<=12 by omega];rfl,s.ext⟩
   | exact y7 Z (.cons (.tmp rfl) (.cons (.tmp rfl) .nil)) rfl λW s=>⟨by simp only [readK,Al_List_headD_cons,h21,h29,Al_if_true,Al_Bool_false_eq_true,Al_if_false,show ¬ pre insB (c::r)<=12 by omega];rfl,s.ext⟩
   | exact y7 Z (.cons (.tmp rfl) (.cons (.tmp rfl) .nil)) rfl λW s=>⟨by simp only [readK,Al_List_headD_cons,h21,h34,Al_if_true,Al_Bool_false_eq_true,Al_if_false,hor];rfl,s.ext⟩
   | exact y7 Z (.cons (.tmp rfl) (.cons (.tmp rfl) .nil)) rfl λW s=>⟨by simp only [readK,Al_List_headD_cons,h21,h34,Al_Bool_false_eq_true,Al_if_false,hfind];rfl,s.ext⟩
 refine .sr<|.yw (.loadMW Z Fx.agg217 G.symbols Z)<|.mv Z<|.nt<|.bk<|.lp (X:=Nat) [(0,_),(11,_)] ⟨Z,Z,Jt⟩ [] (λk=>[(12,iN k)]) (λk=>H) (λk=>[]) (λk=>k<=25/\∀ j,j<k->hasP (c::r) (symbols.getD j [])=false) (λk=>25 - k) 0 (λ_ s=>s) ⟨Z,Jt⟩ ⟨by omega,λj hj=>by omega⟩ λk hC=>?_
 obtain ⟨hk,hne⟩:=hC;refine .sr<|.yw (.lss Z Z)<|.nt<|.sq<|.ce Z (λh13=>?_) (λh13=>?_)
 ·refine .sk<|.tN<|.sq<|.bk<|.sr<|.yw (.idxA Fx.arr217 Fx.are217 Z Z Z (by omega) (list_at (by show k<25;omega) []))<|.a Z Z<|.ns<|.mv Z<|.mv Z<|.yw (.call Fx.call148 Z (λW s=>hasPrefix_any (c::r) _ W))<|.nt<|.cd Z (λh17=>?_) (λh17=>?_)
  ·have hfind:=sym_find (by omega) hne h17;refine .sm Z<|.yw (.lenS Fx.str9 Z)<|.a Z Z<|.az Z<|.bR<|.tR<|.tR<|.bR<|.bR<|.tR<|?_
   first
    | exact y7 Z (.cons (.tmp rfl) (.cons (.tmp rfl) .nil)) rfl λW s=>⟨by simp only [readK,Al_List_headD_cons,h21,h29,Al_if_true];rfl,s.ext⟩
    | exact y7 Z (.cons (.tmp rfl) (.cons (.tmp rfl) .nil)) rfl λW s=>⟨by simp only [readK,Al_List_headD_cons,h21,h29,Al_if_true,Al_Bool_false_eq_true,Al_if_false,show pre insB (c::r)<=12 by omega];rfl,s.ext⟩
    | exact y7 Z (.cons (.tmp rfl) (.cons (.tmp rfl) .nil)) rfl λW s=>⟨by simp only [readK,Al_List_headD_cons,h21,h29,Al_if_true,Al_Bool_false_eq_true,Al_if_false,show ¬ pre insB (c::r)<=12 by omega];rfl,s.ext⟩
    | exact y7 Z (.cons (.tmp rfl) (.cons (.tmp rfl) .nil)) rfl λW s=>⟨by simp only [readK,Al_List_headD_cons,h21,h34,Al_if_true,Al_Bool_false_eq_true,Al_if_false,hor];rfl,s.ext⟩
    | exact y7 Z (.cons (.tmp rfl) (.cons (.tmp rfl) .nil)) rfl λW s=>⟨by simp only [readK,Al_List_headD_cons,h21,h34,Al_Bool_false_eq_true,Al_if_false,hfind];rfl,s.ext⟩
  exact .sk<|.bN<|.tN<|.rg<|.yw (.add Z Z w7)<|.mv Z<|.nt<|.ag (k+1) ⟨Z,Jt⟩ ⟨Z,Z,Jt⟩ (λ_ s=>s) ⟨by omega,λj hj=>by
   by_cases e:j=k
   ·subst e;exact h17
   ·exact hne j (by omega)⟩ (by omega)
 have hfind:=sym_none (l:=c::r) (λj hj=>hne j (by omega));refine .ex<|.tE<|.tE<|.bE<|.bN<|.tN<|.sm Z<|.yw (.lenS Fx.str9 Z)<|.a Z Z<|.az Z<|?_
 first
  | exact y7 Z (.cons (.tmp rfl) (.cons (.tmp rfl) .nil)) rfl λW s=>⟨by simp only [readK,Al_List_headD_cons,h21,h29,Al_if_true];rfl,s.ext⟩
  | exact y7 Z (.cons (.tmp rfl) (.cons (.tmp rfl) .nil)) rfl λW s=>⟨by simp only [readK,Al_List_headD_cons,h21,h29,Al_if_true,Al_Bool_false_eq_true,Al_if_false,show pre insB (c::r)<=12 by omega];rfl,s.ext⟩
  | exact y7 Z (.cons (.tmp rfl) (.cons (.tmp rfl) .nil)) rfl λW s=>⟨by simp only [readK,Al_List_headD_cons,h21,h29,Al_if_true,Al_Bool_false_eq_true,Al_if_false,show ¬ pre insB (c::r)<=12 by omega];rfl,s.ext⟩
  | exact y7 Z (.cons (.tmp rfl) (.cons (.tmp rfl) .nil)) rfl λW s=>⟨by simp only [readK,Al_List_headD_cons,h21,h34,Al_if_true,Al_Bool_false_eq_true,Al_if_false,hor];rfl,s.ext⟩
  | exact y7 Z (.cons (.tmp rfl) (.cons (.tmp rfl) .nil)) rfl λW s=>⟨by simp only [readK,Al_List_headD_cons,h21,h34,Al_Bool_false_eq_true,Al_if_false,hfind];rfl,s.ext⟩
theorem isName_any (H:Hp) (G:Gl H) (l:Str) (hl:l.length<=9223372036854775807) (w:World) (hA:Agr H w) :
 Calls prg 75 #[strV l] w λr w'=>r=.returned (.bool (nameB l))/\Ext w w':=by
 refine Sx.enter (H:=H) func75 rfl ntmps75 rfl hA ?_;refine .sr<|.aq Z<|.sq<|.sm Z<|.yw (.eqS Z Z)<|.nt<|.ce Z (λh6=>?_) (λh6=>?_)
 ·subst h6;refine .sr<|.az Z<|.tR<|?_
  refine y9 Z Z λW s=>⟨retB ?_,s.ext⟩
  first
   | (rw [nameB,show (readK l).1=1 from h1];simp [h6];omega)
   | (rw [show nameB l=false by simp [nameB,h1]])
   | (rfl)
 refine .sk<|.tN<|.sm Z<|.yw (.call Fx.call97 Z (λW s=>read_any H G l hl h6 W s.agr))<|.mv Z<|.yw (.extract Z Z)<|.yw (.extract Z Z)<|.a Z Z<|.a Z Z<|.ns<|.mv Z<|.yw (.eql Z Z)<|.mv Z<|.e2 (λh14=>?_) (λh14=>?_)
 ·have h1:(readK l).1=1:=Al_UInt8_toNat_inj.1 (by show _=1;omega);refine .gy (.move Z)<|.gy (.move Z)<|.gy (.lenS Fx.str9 Z)<|.gy (.eql Z Z)<|.yw (.pickT Z Z)<|.az Z<|?_
  refine y9 Z Z λW s=>⟨retB ?_,s.ext⟩
  first
   | (rw [nameB,show (readK l).1=1 from h1];simp [h6];omega)
   | (rw [show nameB l=false by simp [nameB,h1]])
   | (rfl)
 have h1:¬ (readK l).1=1:=λe=>h14 (by rw [e];rfl);refine .gG<|.gG<|.gG<|.gG<|.yw (.pickF Z Z)<|.az Z<|?_
 refine y9 Z Z λW s=>⟨retB ?_,s.ext⟩
 first
  | (rw [nameB,show (readK l).1=1 from h1];simp [h6];omega)
  | (rw [show nameB l=false by simp [nameB,h1]])
  | (rfl)
theorem Fx.agg9:aggN prg 9=some none:=by kernel_rfl
theorem Fx.agg2:aggN prg 2=some none:=by kernel_rfl
theorem Fx.agg3:aggN prg 3=some none:=by kernel_rfl
theorem Fx.int3:intN prg 3=some Go.IntKind.i64:=by kernel_rfl
theorem Fx.row32:rowN prg 32=some (76,4,56):=by kernel_rfl
theorem Fx.size32:sizeN prg 32=some 1:=by kernel_rfl
theorem Fx.size76:sizeN prg 76=some 4:=by kernel_rfl
theorem Fx.zero76:zeroN prg 76=some
 [Go.Value.int Go.IntKind.u8 (Int.ofNat 0),Go.Value.string { data:={ toList:=[] } },
  Go.Value.int Go.IntKind.i64 (Int.ofNat 0),Go.Value.slice none 0 0]:=by kernel_rfl
theorem Fx.bsl32_1 (x00 x01 x02 x03:Value):bslN prg 32 1 [(0,.agg [x00,x01,x02,x03].toArray)]=some (76,[x00,x01,x02,x03]):=by kernel_rfl
theorem Fx.agg4:aggN prg 4=some none:=by kernel_rfl
theorem Fx.agg5:aggN prg 5=some none:=by kernel_rfl
theorem Fx.int5:intN prg 5=some Go.IntKind.u8:=by kernel_rfl
theorem Fx.size9:sizeN prg 9=some 1:=by kernel_rfl
theorem Fx.row71:rowN prg 71=some (9,1,16):=by kernel_rfl
theorem Fx.bsl71_1 (x0:ByteArray):bslN prg 71 1 [(0,.string x0)]=some (9,[.string x0]):=by kernel_rfl
theorem Fx.size3:sizeN prg 3=some 1:=by kernel_rfl
theorem Fx.agg74:aggN prg 74=some none:=by kernel_rfl
theorem Fx.call51:callN prg 51=true:=by kernel_rfl
theorem Fx.call52:callN prg 52=true:=by kernel_rfl
theorem Fx.field76_0:fieldN prg 76 0=some 0:=by kernel_rfl
theorem Fx.field76_1:fieldN prg 76 1=some 1:=by kernel_rfl
theorem Fx.field76_2:fieldN prg 76 2=some 2:=by kernel_rfl
theorem Fx.agg29:aggN prg 29=some none:=by kernel_rfl
theorem Fx.agg99:aggN prg 99=some none:=by kernel_rfl
theorem Fx.agg106:aggN prg 106=some none:=by kernel_rfl
theorem Fx.agg108:aggN prg 108=some (some 3):=by kernel_rfl
theorem Fx.call98:callN prg 98=true:=by kernel_rfl
theorem Fx.field102_0:fieldN prg 102 0=some 0:=by kernel_rfl
theorem Fx.field102_1:fieldN prg 102 1=some 1:=by kernel_rfl
theorem Fx.field102_7:fieldN prg 102 7=some 7:=by kernel_rfl
theorem Fx.field102_8:fieldN prg 102 8=some 8:=by kernel_rfl
theorem Fx.field108_0:fieldN prg 108 0=some 0:=by kernel_rfl
theorem Fx.field108_1:fieldN prg 108 1=some 1:=by kernel_rfl
theorem Fx.size29:sizeN prg 29=some 1:=by kernel_rfl
theorem Fx.size108:sizeN prg 108=some 3:=by kernel_rfl
theorem Fx.sl99:slN prg 99=some 3:=by kernel_rfl
theorem Fx.zero108:zeroN prg 108=some
 [Go.Value.int Go.IntKind.u8 (Int.ofNat 0),Go.Value.string { data:={ toList:=[] } },
  Go.Value.int Go.IntKind.i64 (Int.ofNat 0)]:=by kernel_rfl
structure Tkf (H:Hp) (l:Tks) (tp:Option Addr) (tc:Nat):Prop where
 rep:Rep H (.seq 3 (l.map (dTk .u8))) [.slice tp l.length tc]
 gd:Tgd l
 short:∀ t∈l,t.t.length<=400000
 few:l.length<=600000
 num:∀ t∈l,t.k=3->pre digB t.t=t.t.length/\¬ t.t=[]
variable {H H':Hp} {tp:Option Addr} {tc:Nat}
theorem Tkf.up {l:Tks} (h:Tkf H l tp tc) (u:Up H H'):Tkf H' l tp tc:=⟨h.rep.up u,h.gd,h.short,h.few,h.num⟩
variable {i:Nat}
theorem tkf_at {l:Tks} (h:i<l.length):l[i]=tkf l i:=by unfold tkf;rw [List.getD_eq_getElem?_getD,List.getElem?_eq_getElem h];rfl
theorem tkf_mem {l:Tks} (h:i<l.length):tkf l i∈l:=by rw [<-tkf_at h];exact Al_List_getElem_mem h
variable {q:Rq}
theorem nmV_len {l:Tks} (K:Tkf H l tp tc) (hq:q.i<l.length):(q.nmV l).length<=400000:=by
 unfold Rq.nmV
 split
 ·exact K.short _ (tkf_mem hq)
 ·exact Al_Nat_zero_le _
theorem fld_f0 (a b c:Value):∀ W,(Instr.field 108 (.agg [a,b,c].toArray) 0).run prg W=.ok a W:=λ_=>by kernel_rfl
theorem fld_f2 (a b c:Value):∀ W,(Instr.field 108 (.agg [a,b,c].toArray) 2).run prg W=.ok c W:=λ_=>by kernel_rfl
theorem k8 {k:UInt8} {m:Nat} (hm:m<256):decide (((k.toNat:Nat):Int)=(m:Int))=decide (k=UInt8.ofNat m):=by
 rw [Al_Bool_eq_iff_iff,Al_decide_eq_true_eq,Al_decide_eq_true_eq]
 constructor
 ·intro e;exact Al_UInt8_toNat_inj.1 (by rw [Al_UInt8_toNat_ofNat_of_lt' hm];omega)
 ·intro e;rw [e,Al_UInt8_toNat_ofNat_of_lt' hm]
theorem k80 {k:UInt8} :decide (((k.toNat:Nat):Int)=0)=decide (k=0):=k8 (m:=0) (by decide)
theorem k81 {k:UInt8} :decide (((k.toNat:Nat):Int)=1)=decide (k=1):=k8 (m:=1) (by decide)
theorem k82 {k:UInt8} :decide (((k.toNat:Nat):Int)=2)=decide (k=2):=k8 (m:=2) (by decide)
theorem k84 {k:UInt8} :decide (((k.toNat:Nat):Int)=4)=decide (k=4):=k8 (m:=4) (by decide)
variable {n:Nat}
theorem er0:decide (((n:Nat):Int)=0)=decide (n=0):=by rw [Al_Bool_eq_iff_iff,Al_decide_eq_true_eq,Al_decide_eq_true_eq];omega
variable {w0 W:World} {bs:List Res} {ro rv:Value} {bd:Bool}
theorem token_f {b:Nat} {l:Tks} {rd dn:Bool} (K:Tkf H l tp tc) (hq:q.i<l.length) (s:St H w0 (.box b [.slice tp l.length tc,iN q.i,ro,rv,.bool rd,.bool dn,.bool bd,iN q.off,iN q.er] 102::bs) W) :
 Calls prg 98 #[.pointer (some ⟨b,0,none⟩)] W λe W'=>∃ _:Unit,(True)/\e=.returned (.agg (cTk .u8 (tkf l q.i)).toArray)/\St H w0 (.box b [.slice tp l.length tc,iN q.i,ro,rv,.bool rd,.bool dn,.bool bd,iN q.off,iN q.er] 102::bs) W':=by
 have hcap:=K.rep.cap;obtain ⟨bE,oE,cE,hpE,rE,lE,mE⟩:=K.rep.elem (map_at (f:=dTk .u8) hq);cases hpE;rw [tkf_at hq] at rE;obtain ⟨rfl,_⟩:=tk_open rE;refine enterS func98 rfl ntmps98 rfl s ?_;refine .sr<|.al Fx.zero108 Z λb2=>.nt<|.sq<|.fL 10 [(0,0),(1,0),(2,0),(3,0),(4,0),(5,0),(6,0),(7,0),(8,0),(9,0)]<|.mv Z<|.nC Z<|.fA Z Fx.field102_0<|.lD Z Fx.agg99 mem1 Z<|.mv Z<|.nC Z<|.fA Z Fx.field102_1<|.lD Z Fx.agg3 mem1 Z<|.yw (.indexSl Fx.sl99 Z Z Z (by omega) (q:=oE+q.i * 3) Z)<|.yw (.loadMW Z Fx.agg108 mE Z)<|.fn (tl:=[_]) Z<|.sW .head Z Z Fx.size108 (by simp [cTk,Value.oneCell',strV]) Z<|.nt<|.rt<|?_
 refine y8 Z (.cell Z Fx.agg108 Hm rfl) λW s=>?_;exact ⟨(),Jt,Z,s.p2_1 [1] rfl⟩
theorem fail_f {b:Nat} {l:Tks} {rd dn:Bool} (K:Tkf H l tp tc) (hq:q.i<l.length) (c:Nat) (s:St H w0 (.box b [.slice tp l.length tc,iN q.i,ro,rv,.bool rd,.bool dn,.bool bd,iN q.off,iN q.er] 102::bs) W) :
 Calls prg 104 #[.pointer (some ⟨b,0,none⟩),iN c] W λe W'=>∃ _:Unit,(True)/\e=.returned (.tuple #[])/\St H w0 (.box b [.slice tp l.length tc,iN ((q.fail l c).i),ro,rv,.bool rd,.bool dn,.bool bd,iN ((q.fail l c).off),iN ((q.fail l c).er)] 102::bs) W':=by
 refine enterS func104 rfl ntmps104 rfl s ?_;refine .sm Z<|.nC Z<|.fA Z Fx.field102_8<|.lD Z Fx.agg29 Hm Z<|.yw (.eql Z Z)<|.nt<|.ce Z (λh8=>?_) (λh8=>?_)
 ·have h0:q.er=0:=by omega
  have e1:q.fail l c=⟨q.i,(tkf l q.i).o,c⟩:=by unfold Rq.fail;rw [Al_if_pos h0]
  rw [e1];refine .rg<|.mv Z<|.mv Z<|.mv Z<|.mv Z<|.cs (X:=Unit) Fx.call98 Z (λW s=>token_f K hq  (s.p1_1 [0] Z)) Z λ_ _=>.yw (.fld Z (fld_f2 _ _ _))<|.nC Z<|.fA Z Fx.field102_8<|.st .head Z Z Fx.size29 Z (nb Z) Z<|.nC Z<|.fA Z Fx.field102_7<|.st .head Z Z Fx.size3 Z (nb Z) Z<|.nl<|?_
  refine retN (.inr Z) rfl .nil rfl λW s=>⟨(),Jt,Z,?_⟩;exact s.p1_1 [0] rfl
 have h0:¬ q.er=0:=by omega
 have e1:q.fail l c=q:=by unfold Rq.fail;rw [Al_if_neg h0]
 rw [e1];refine .sk<|?_
 refine retN (.inr Z) rfl .nil rfl λW s=>⟨(),Jt,Z,?_⟩;exact s.p1_1 [0] rfl
theorem is_f {b:Nat} {l:Tks} {rd dn:Bool} (K:Tkf H l tp tc) (hq:q.i<l.length) (w:Str) (s:St H w0 (.box b [.slice tp l.length tc,iN q.i,ro,rv,.bool rd,.bool dn,.bool bd,iN q.off,iN q.er] 102::bs) W) :
 Calls prg 100 #[.pointer (some ⟨b,0,none⟩),strV w] W λe W'=>∃ _:Unit,(True)/\e=.returned (.bool (q.is l w))/\St H w0 (.box b [.slice tp l.length tc,iN q.i,ro,rv,.bool rd,.bool dn,.bool bd,iN q.off,iN q.er] 102::bs) W':=by
 refine enterS func100 rfl ntmps100 rfl s ?_;refine .sr<|.a Z Z<|.ns<|.mv Z<|.cs (X:=Unit) Fx.call98 Z (λW s=>token_f K hq  (s.p1_1 [0] Z)) Z λ_ _=>.al Fx.zero108 Z λb5=>.sW .head Z Z Fx.size108 (by simp [cTk,Value.oneCell',strV]) Z<|.ns<|.fA Z Fx.field108_0<|.lD Z Fx.agg106 Hm Z<|.yw (.eql Z Z)<|.mv Z<|.b2 (λh11=>?_) (λh11=>?_)
 ·refine .gG<|.gG<|.gG<|.yw (.pickT Z Z)<|.mv Z<|.gy (.fieldAddr Z Fx.field108_1)<|.gy (.load Z Fx.agg9 Hm Z)<|.gy (.move Z)<|.gy (.eqS Z Z)<|.yw (.pickT Z Z)<|.az Z<|?_
  refine y9 Z Z λW s=>?_
  first
   | (exact ⟨(),Jt,(by unfold Rq.is;rw [<-k82,<-k84,h11,h16];first | rfl | (rw [Al_Bool_true_and]) | (rw [Bool.or_true,Al_Bool_true_and])),s.p2_1 [1] rfl⟩)
   | (exact ⟨(),Jt,(by unfold Rq.is;rw [<-k82,<-k84,h11];first | rfl | (rw [Al_Bool_true_and]) | (rw [Bool.or_true,Al_Bool_true_and])),s.p2_1 [1] rfl⟩)
   | (exact ⟨(),Jt,(by unfold Rq.is;rw [<-k82,<-k84,h16];first | rfl | (rw [Al_Bool_true_and]) | (rw [Bool.or_true,Al_Bool_true_and])),s.p2_1 [1] rfl⟩)
 refine .gy (.fieldAddr Z Fx.field108_0)<|.gy (.load Z Fx.agg106 Hm Z)<|.gy (.eql Z Z)<|.yw (.pickF Z Z)<|.mv Z<|.b2 (λh16=>?_) (λh16=>?_)
 ·refine .gy (.fieldAddr Z Fx.field108_1)<|.gy (.load Z Fx.agg9 Hm Z)<|.gy (.move Z)<|.gy (.eqS Z Z)<|.yw (.pickT Z Z)<|.az Z<|?_
  refine y9 Z Z λW s=>?_
  first
   | (exact ⟨(),Jt,(by unfold Rq.is;rw [<-k82,<-k84,h11,h16];first | rfl | (rw [Al_Bool_true_and]) | (rw [Bool.or_true,Al_Bool_true_and])),s.p2_1 [1] rfl⟩)
   | (exact ⟨(),Jt,(by unfold Rq.is;rw [<-k82,<-k84,h11];first | rfl | (rw [Al_Bool_true_and]) | (rw [Bool.or_true,Al_Bool_true_and])),s.p2_1 [1] rfl⟩)
   | (exact ⟨(),Jt,(by unfold Rq.is;rw [<-k82,<-k84,h16];first | rfl | (rw [Al_Bool_true_and]) | (rw [Bool.or_true,Al_Bool_true_and])),s.p2_1 [1] rfl⟩)
 refine .gG<|.gG<|.gG<|.gG<|.yw (.pickF Z Z)<|.az Z<|?_
 refine y9 Z Z λW s=>?_
 first
  | (exact ⟨(),Jt,(by unfold Rq.is;rw [<-k82,<-k84,h11,h16];first | rfl | (rw [Al_Bool_true_and]) | (rw [Bool.or_true,Al_Bool_true_and])),s.p2_1 [1] rfl⟩)
  | (exact ⟨(),Jt,(by unfold Rq.is;rw [<-k82,<-k84,h11];first | rfl | (rw [Al_Bool_true_and]) | (rw [Bool.or_true,Al_Bool_true_and])),s.p2_1 [1] rfl⟩)
  | (exact ⟨(),Jt,(by unfold Rq.is;rw [<-k82,<-k84,h16];first | rfl | (rw [Al_Bool_true_and]) | (rw [Bool.or_true,Al_Bool_true_and])),s.p2_1 [1] rfl⟩)
theorem Fx.call100:callN prg 100=true:=by kernel_rfl
theorem Fx.call104:callN prg 104=true:=by kernel_rfl
theorem Fx.call107:callN prg 107=true:=by kernel_rfl
theorem accept_f {b:Nat} {l:Tks} {rd dn:Bool} (K:Tkf H l tp tc) (hq:q.i<l.length) (w:Str) (s:St H w0 (.box b [.slice tp l.length tc,iN q.i,ro,rv,.bool rd,.bool dn,.bool bd,iN q.off,iN q.er] 102::bs) W) :
 Calls prg 107 #[.pointer (some ⟨b,0,none⟩),strV w] W λe W'=>∃ _:Unit,(True)/\e=.returned (.bool (q.ac l w))/\St H w0 (.box b [.slice tp l.length tc,iN ((q.acS l w).i),ro,rv,.bool rd,.bool dn,.bool bd,iN ((q.acS l w).off),iN ((q.acS l w).er)] 102::bs) W':=by
 have hcap:=K.rep.cap;refine enterS func107 rfl ntmps107 rfl s ?_;refine .sr<|.aq Z<|.sq<|.sm Z<|.nC Z<|.fA Z Fx.field102_8<|.lD Z Fx.agg29 Hm Z<|.yw (.neq Z Z)<|.mv Z<|.b2 (λh10=>?_) (λh10=>?_)
 ·have h0:¬ q.er=0:=by have:=Al_of_decide_eq_true h10;omega
  have e3:q.ac l w=false:=acF_bad h0;have e1:q.acS l w=q:=by unfold Rq.acS;rw [Al_if_neg (by rw [e3];decide)]
  rw [e1];refine .gG<|.gG<|.gG<|.gG<|.yw (.pickT Z Z)<|.nt<|.cT Z<|.sr<|.az Z<|.tR<|?_
  refine y9 Z Z λW s=>?_;exact ⟨(),Jt,(by rw [e3]),s.p1_1 [0] rfl⟩
 have h0:q.er=0:=by have:=Al_of_decide_eq_false h10;omega
 have ea:q.ac l w=q.is l w:=(is_ac0 h0).symm;refine .gy (.move Z)<|.gy (.move Z)<|.gd Z Z<|.cs (X:=Unit) Fx.call100 Z (λW s=>is_f K hq w (s.p1_1 [0] Z)) Z λ_ _=>.gy (.not Z)<|.yw (.pickF Z Z)<|.nt<|.cd Z (λh15=>?_) (λh15=>?_)
 ·have e3:q.ac l w=false:=by rw [ea];simpa using h15
  have e1:q.acS l w=q:=by unfold Rq.acS;rw [Al_if_neg (by rw [e3];decide)]
  rw [e1];refine .sr<|.az Z<|.tR<|?_
  refine y9 Z Z λW s=>?_;exact ⟨(),Jt,(by rw [e3]),s.p1_1 [0] rfl⟩
 have e3:q.ac l w=true:=by rw [ea];simpa using h15
 have e1:q.acS l w=q.nx:=by unfold Rq.acS;rw [Al_if_pos e3]
 rw [e1];have hi:=wi_ac K.gd.last hq e3;have hi2:q.nx.i=q.i+1:=rfl;refine .sk<|.tN<|.sm Z<|.nC Z<|.fA Z Fx.field102_1<|.lD Z Fx.agg3 Hm Z<|.yw (.add Z Z (c:=((q.nx.i:Nat):Int)) ((w6 (by omega)).trans (by show _=((q.i+1:Nat):Int);omega)))<|.nC Z<|.fA Z Fx.field102_1<|.st .head Z Z Fx.size3 Z (nb Z) Z<|.ns<|.az Z<|?_
 refine y9 Z Z λW s=>?_;exact ⟨(),Jt,(by rw [e3]),s.p1_1 [0] rfl⟩
variable {w:Str}
theorem acF_T {l:Tks} (h:q.ac l w=true):q.acS l w=q.nx:=by unfold Rq.acS;rw [Al_if_pos h]
theorem acF_F {l:Tks} (h:q.ac l w=false):q.acS l w=q:=by unfold Rq.acS;rw [Al_if_neg (by rw [h];decide)]
theorem expect_f {b:Nat} {l:Tks} {rd dn:Bool} (K:Tkf H l tp tc) (hq:q.i<l.length) (w:Str) (s:St H w0 (.box b [.slice tp l.length tc,iN q.i,ro,rv,.bool rd,.bool dn,.bool bd,iN q.off,iN q.er] 102::bs) W) :
 Calls prg 114 #[.pointer (some ⟨b,0,none⟩),strV w] W λe W'=>∃ _:Unit,(True)/\e=.returned (.tuple #[])/\St H w0 (.box b [.slice tp l.length tc,iN ((q.exS l w).i),ro,rv,.bool rd,.bool dn,.bool bd,iN ((q.exS l w).off),iN ((q.exS l w).er)] 102::bs) W':=by
 refine enterS func114 rfl ntmps114 rfl s ?_;refine .sm Z<|.mv Z<|.cs (X:=Unit) Fx.call107 Z (λW s=>accept_f K hq w (s.p1_1 [0] Z)) Z λ_ _=>.yw (.not Z)<|.nt<|.cd Z (λh7=>?_) (λh7=>?_)
 ·have hb:q.ac l w=false:=by simpa using h7
  have e1:q.exS l w=q.fail l 8:=ex_no hb;rw [acF_F hb,e1];refine .rg<|.mv Z<|.cs (X:=Unit) Fx.call104 Z (λW s=>fail_f K hq 8 (s.p1_1 [0] Z)) Z λ_ _=>.nl<|?_
  refine retN (.inr Z) rfl .nil rfl λW s=>⟨(),Jt,Z,?_⟩;exact s.p1_1 [0] rfl
 have hb:q.ac l w=true:=by simpa using h7
 have e1:q.exS l w=q.nx:=ex_ac hb;rw [acF_T hb,e1];refine .sk<|?_
 refine retN (.inr Z) rfl .nil rfl λW s=>⟨(),Jt,Z,?_⟩;exact s.p1_1 [0] rfl
theorem name_f {b:Nat} {l:Tks} {rd dn:Bool} (K:Tkf H l tp tc) (hq:q.i<l.length) (s:St H w0 (.box b [.slice tp l.length tc,iN q.i,ro,rv,.bool rd,.bool dn,.bool bd,iN q.off,iN q.er] 102::bs) W) :
 Calls prg 113 #[.pointer (some ⟨b,0,none⟩)] W λe W'=>∃ _:Unit,(True)/\e=.returned (strV (q.nmV l))/\St H w0 (.box b [.slice tp l.length tc,iN ((q.nmS l).i),ro,rv,.bool rd,.bool dn,.bool bd,iN ((q.nmS l).off),iN ((q.nmS l).er)] 102::bs) W':=by
 have hcap:=K.rep.cap;refine enterS func113 rfl ntmps113 rfl s ?_;refine .sr<|.aq Z<|.sq<|.sm Z<|.nC Z<|.fA Z Fx.field102_8<|.lD Z Fx.agg29 Hm Z<|.yw (.neq Z Z)<|.mv Z<|.e2 (λh8=>?_) (λh8=>?_)
 ·have hbad:¬ q.nmK l=true:=λe=>by have:=(nmK_er e).1;omega
  have e1:q.nmS l=q.fail l 8:=by unfold Rq.nmS;rw [Al_if_neg hbad]
  have e2:q.nmV l=[]:=by unfold Rq.nmV;rw [Al_if_neg hbad]
  rw [e1,e2];refine .gG<|.gG<|.gG<|.gG<|.yw (.pickT Z Z)<|.nt<|.cT Z<|.sm Z<|.cs (X:=Unit) Fx.call104 Z (λW s=>fail_f K hq 8 (s.p1_1 [0] Z)) Z λ_ _=>.ns<|.az Z<|.tR<|?_
  refine y9 Z Z λW s=>?_;exact ⟨(),Jt,Z,s.p1_1 [0] rfl⟩
 have h0:q.er=0:=by omega
 refine .gy (.move Z)<|.gd Z Z<|.cs (X:=Unit) Fx.call98 Z (λW s=>token_f K hq  (s.p1_1 [0] Z)) Z λ_ _=>.gy (.fld Z (fld_f0 _ _ _))<|.gy (.neq Z Z)<|.yw (.pickF Z Z)<|.nt<|.ce Z (λh13=>?_) (λh13=>?_)
 ·have hbad:¬ q.nmK l=true:=λe=>by have:=(nmK_er e).2;simp [this] at h13
  have e1:q.nmS l=q.fail l 8:=by unfold Rq.nmS;rw [Al_if_neg hbad]
  have e2:q.nmV l=[]:=by unfold Rq.nmV;rw [Al_if_neg hbad]
  rw [e1,e2];refine .sm Z<|.cs (X:=Unit) Fx.call104 Z (λW s=>fail_f K hq 8 (s.p1_1 [0] Z)) Z λ_ _=>.ns<|.az Z<|.tR<|?_
  refine y9 Z Z λW s=>?_;exact ⟨(),Jt,Z,s.p1_1 [0] rfl⟩
 have hk:(tkf l q.i).k=1:=Al_UInt8_toNat_inj.1 (by show (tkf l q.i).k.toNat=1;omega);have hok:q.nmK l=true:=by unfold Rq.nmK;rw [Al_decide_eq_true h0,Al_decide_eq_true hk];rfl
 have e1:q.nmS l=q.nx:=by unfold Rq.nmS;rw [Al_if_pos hok]
 have e2:q.nmV l=(tkf l q.i).t:=by unfold Rq.nmV;rw [Al_if_pos hok]
 rw [e1,e2];have hi:=wi_nmK K.gd.last hq hok;have hi2:q.nx.i=q.i+1:=rfl;obtain ⟨bE,oE,cE,hpE,rE,lE,mE⟩:=K.rep.elem (map_at (f:=dTk .u8) hq);cases hpE;rw [tkf_at hq] at rE;obtain ⟨rfl,_⟩:=tk_open rE;refine .sk<|.tN<|.sm Z<|.nC Z<|.fA Z Fx.field102_1<|.lD Z Fx.agg3 Hm Z<|.yw (.add Z Z (c:=((q.nx.i:Nat):Int)) ((w6 (by omega)).trans (by show _=((q.i+1:Nat):Int);omega)))<|.nC Z<|.fA Z Fx.field102_1<|.st .head Z Z Fx.size3 Z (nb Z) Z<|.nt<|.sq<|.fL 12 [(0,0),(1,0),(2,0),(3,0),(4,0),(5,0),(6,0),(7,0),(8,0),(9,0),(10,0),(11,0)]<|.mv Z<|.nC Z<|.fA Z Fx.field102_0<|.lD Z Fx.agg99 Hm Z<|.mv Z<|.nC Z<|.fA Z Fx.field102_1<|.lD Z Fx.agg3 Hm Z<|.yw (.sub Z Z (c:=((q.i:Nat):Int)) ((w6 (by omega)).trans (by omega)))<|.yw (.indexSl Fx.sl99 Z Z Z (by omega) (q:=oE+q.i * 3) Z)<|.fA Z Fx.field108_1<|.yw (.loadM Z Fx.agg9 mE (k:=1) Z Z)<|.fn (tl:=[_]) Z<|.az Z<|?_
 refine y9 Z Z λW s=>?_;exact ⟨(),Jt,Z,s.p1_1 [0] rfl⟩
end Go.Proofs.YtidclioghdbphaaGreatDoor
namespace Go.Plain
open Go.Lib

theorem digits_more (x:Nat) (h:¬ x<10):decDigits x=decDigits (x / 10)++[UInt8.ofNat (48+x % 10)]:=by
 rw [decDigits,Al_dif_neg h]
theorem digit_nat (d:Nat) (h:d<10):(UInt8.ofNat (48+d)).toNat=48+d:=by
 rw [Al_UInt8_toNat_ofNat'];omega
theorem digits_are:∀ (u:Nat) (c:UInt8),c∈decDigits u->48<=c.toNat/\c.toNat<=57:=by
 intro u;induction u using Nat.strongRecOn with
 | _ u ih =>
  intro c hc
  by_cases h:u<10
  ·rw [decDigits_one h] at hc;obtain rfl:=Al_List_mem_singleton.1 hc;rw [digit_nat u h];omega
  ·rw [digits_more u h] at hc;rcases Al_List_mem_append.1 hc with hc | hc
   ·exact ih (u / 10) (by omega) c hc
   ·obtain rfl:=Al_List_mem_singleton.1 hc;rw [digit_nat (u % 10) (by omega)];omega
end Go.Plain
namespace Go.Proofs.YtidclioghdbphaaGreatDoor
abbrev Kt:=UInt8 × Str
def kt (t:Tk):Kt:=(t.k,t.t)
def isK (w:Str) (x:Kt):Bool:=(x.1 == 2 || x.1 == 4) && decide (x.2=w)
def opK (lv:Nat) (x:Kt):Option UInt8:=((opsL lv).find? λy=>isK y.1 x).map (·.2)
theorem isT_cons (w:Str) (t:Tk) (r:List Tk):isT w (t::r)=isK w (kt t):=rfl
theorem opAt_cons (lv:Nat) (t:Tk) (r:List Tk):opAt lv (t::r)=opK lv (kt t):=rfl
def parK (n lv:Nat) (l:List Kt):List Kt:=if lv<n then (4,[40])::(l++[(4,[41])]) else l
def symK (op:UInt8):Kt:=(if op=22\/op=23 then 2 else 4,((shapeOf op).tx.drop 1).dropLast)
def ktx (op:UInt8) (nm:Str) (n:Int64) (ls:List (Nat × List Kt)):List Kt :=
 if op=1 then [(3,Lib.itoa n.toInt)]
 else if op=5 then [(1,nm)]
 else if op=8 then [(2,[115,105,122,101]),(1,nm)]
 else if op=6 then (1,nm)::(4,[91])::((ls.getD 0 (0,[])).2++[(4,[93])])
 else if op=7 then (2,[104,97,115])::(1,nm)::(4,[91])::((ls.getD 0 (0,[])).2++[(4,[93])])
 else if op=9 then (4,[45])::parK 6 (ls.getD 0 (0,[])).1 (ls.getD 0 (0,[])).2
 else if op=10 then (2,[110,111,116])::parK 6 (ls.getD 0 (0,[])).1 (ls.getD 0 (0,[])).2
 else if (shapeOf op).n=0 then [(2,(shapeOf op).tx)]
 else parK (lftT (shapeOf op).lv) (ls.getD 0 (0,[])).1 (ls.getD 0 (0,[])).2++symK op::parK ((shapeOf op).lv+1) (ls.getD 1 (0,[])).1 (ls.getD 1 (0,[])).2
mutual
def ktE:Ex->List Kt
 | .mk op nm n args=>ktx op nm n (ktEs args)
def ktEs:List Ex->List (Nat × List Kt)
 | []=>[]
 | e::r=>((shapeOf e.op).lv,ktE e)::ktEs r
end
def Ex.lv (e:Ex):Nat:=(shapeOf e.op).lv
def Stp (j:Nat) (r:List Tk):Prop:=(∀ i,j<=i->i<=4->opAt i r=none)/\isT [91] r=false
variable {i j:Nat}
theorem Stp.up {r:List Tk} (h:Stp i r) (hij:i<=j):Stp j r:=⟨λk h1 h2=>h.1 k (by omega) h2,h.2⟩
theorem Stp.of {t:Tk} {r:List Tk} (h:∀ i∈List.range 5,j<=i->opK i (kt t)=none) (h2:isK [91] (kt t)=false):Stp j (t::r) :=
 ⟨λi h1 h3=>h i (Al_List_mem_range.2 (by omega)) h1,h2⟩
theorem pX_up {l:List Tk} {a:Ex} {r:List Tk}:∀ (d lv j:Nat),j=lv+1+d->j<=5->pX j l=.ok a r->Stp (lv+1) r->pX lv l=pL lv a r
 | 0,lv,j,e,hj,h,_=>by
  rw [pX_low (by omega),show lv+1=j by omega,h];rfl
 | d+1,lv,j,e,hj,h,hs=>by
  have:=pX_up d (lv+1) j (by omega) hj h (hs.up (by omega));rw [pX_low (by omega),this,pL_none (hs.1 _ (Al_Nat_le_refl _) (by omega))];rfl
def Rd (e:Ex):Prop:=∀ le r,le.map kt=ktE e->(∀ lv,lv<=4->lv+1<=e.lv->Stp (lv+1) r->pX lv (le++r)=if lv=2/\e.lv=3 then .ok e r else pL lv e r)/\(6<=e.lv->isT [91] r=false->pX 5 (le++r)=.ok e r)
theorem Rd.full {e:Ex} (h:Rd e) {le r:List Tk} (hk:le.map kt=ktE e) {lv:Nat} (h5:lv<=5) (hl:lv+1<=e.lv) (hs:Stp lv r):pX lv (le++r)=.ok e r:=by
 by_cases e5:lv=5
 ·subst e5;exact (h le r hk).2 hl hs.2
 ·rw [(h le r hk).1 lv (by omega) hl (hs.up (by omega)),pL_none (hs.1 lv (Al_Nat_le_refl _) (by omega))]
  split <;> rfl
theorem Rd.of {e:Ex} (h6:6<=e.lv) (h:∀ le r,le.map kt=ktE e->isT [91] r=false->pX 5 (le++r)=.ok e r):Rd e:=λle r hk=>by
 refine ⟨λlv hl h1 hs=>?_,λ_=>h le r hk⟩;rw [Al_if_neg (by omega)];exact pX_up (4 - lv) lv 5 (by omega) (by omega) (h le r hk hs.2) hs
theorem Rd.par {e:Ex} (h:Rd e) (h1:1<=e.lv) {le r:List Tk} (hk:le.map kt=(4,[40])::(ktE e++[(4,[41])])):pX 5 (le++r)=.ok e r:=by
 obtain ⟨t,l1,rfl,ht,hk⟩:=Al_List_map_eq_cons_iff.1 hk;obtain ⟨l2,l3,rfl,h2,h3⟩:=Al_List_map_eq_append_iff.1 hk;obtain ⟨t2,l4,rfl,ht2,h4⟩:=Al_List_map_eq_cons_iff.1 h3;obtain rfl:=Al_List_map_eq_nil_iff.1 h4;simp only [Al_List_cons_append,Al_List_append_assoc,Al_List_nil_append];have hf:=h.full h2 (r:=t2::r) (lv:=0) (by omega) h1 (.of (by rw [ht2];decide) (by rw [ht2];decide));rw [pX_un,isT_cons,isT_cons,ht,Al_if_neg (by decide),Al_if_neg (by decide),primE];have hk0:t.k=4:=congrArg Prod.fst ht;simp only [isT_cons,ht];rw [Al_if_neg (by rw [hk0];decide),Al_if_neg (by decide),Al_if_neg (by decide),Al_if_neg (by decide),Al_if_neg (by decide),Al_if_pos (by decide),hf];show needT [41] (t2::r) _=_;rw [needT,isT_cons,ht2,Al_if_pos (by decide)]
 rfl
variable {n:Nat}
theorem Rd.opnd {e:Ex} (h:Rd e) (h1:1<=e.lv) {le r:List Tk} (hk:le.map kt=parK n e.lv (ktE e)) (hn:n<=6) (h0:0<n) (hs:Stp (n - 1) r):pX (n - 1) (le++r)=.ok e r:=by
 unfold parK at hk
 split at hk
 ·have hp:=h.par h1 hk (r:=r)
  by_cases e5:n=6
  ·subst e5;exact hp
  ·rw [pX_up (5 - n) (n - 1) 5 (by omega) (by omega) hp (hs.up (by omega)),pL_none (hs.1 _ (Al_Nat_le_refl _) (by omega))]
 ·exact h.full hk (by omega) (by omega) hs
theorem Rd.left {e:Ex} (h:Rd e) (h1:1<=e.lv) {lv:Nat} {le r:List Tk} (hk:le.map kt=parK (lv+1) e.lv (ktE e)) (hn:lv<=4) (h2:lv≠2) (hs:Stp (lv+1) r):pX lv (le++r)=pL lv e r:=by
 unfold parK at hk
 split at hk
 ·exact pX_up (4 - lv) lv 5 (by omega) (by omega) (h.par h1 hk (r:=r)) hs
 ·rw [(h le r hk).1 lv hn (by omega) hs,Al_if_neg (by omega)]
theorem numV_digits (u:Nat):numV (Lib.decDigits u)=u:=by
 induction u using Nat.strongRecOn with
 | _ u ih =>
  by_cases h:u<10
  ·rw [Lib.decDigits_one h];simp only [numV,Al_List_foldl_cons,Al_List_foldl_nil,Plain.digit_nat u h];omega
  ·rw [Plain.digits_more u h];have:=ih (u / 10) (by omega);unfold numV at this|-;rw [Al_List_foldl_append,this];simp only [Al_List_foldl_cons,Al_List_foldl_nil,Plain.digit_nat (u % 10) (by omega)];omega
theorem numV_itoa {n:Int} (h:0<=n):numV (Lib.itoa n)=n.toNat:=by
 unfold Lib.itoa;rw [Al_if_neg (by omega),numV_digits]
theorem ok_cases {op:UInt8} (h:okOp op=true):op∈([1,2,3,4,5,6,7,8,9,10,11,12,13,14,15,16,17,18,19,20,21,22,23]:List UInt8):=by
 simp only [okOp,Al_Bool_and_eq_true,Al_decide_eq_true_eq] at h;have key:∀ i∈List.range 24,1<=i->UInt8.ofNat i∈([1,2,3,4,5,6,7,8,9,10,11,12,13,14,15,16,17,18,19,20,21,22,23]:List UInt8):=by decide
 have:=key op.toNat (Al_List_mem_range.2 (by omega)) h.1
 rwa [Al_UInt8_ofNat_toNat] at this
theorem ok_split {op:UInt8} (h:okOp op=true):op=1\/op∈([11,12,13,14,15,16,17,18,19,20,21,22,23]:List UInt8)\/(op=2\/op=3\/op=4\/op=5\/op=6\/op=7\/op=8\/op=9\/op=10):=by
 have key:∀ o∈([1,2,3,4,5,6,7,8,9,10,11,12,13,14,15,16,17,18,19,20,21,22,23]:List UInt8),o=1\/o∈([11,12,13,14,15,16,17,18,19,20,21,22,23]:List UInt8)\/(o=2\/o=3\/o=4\/o=5\/o=6\/o=7\/o=8\/o=9\/o=10):=by decide
 exact key op (ok_cases h)
theorem ok_lv {op:UInt8} (h:okOp op=true):1<=(shapeOf op).lv:=by
 have key:∀ o∈([1,2,3,4,5,6,7,8,9,10,11,12,13,14,15,16,17,18,19,20,21,22,23]:List UInt8),1<=(shapeOf o).lv:=by decide
 exact key op (ok_cases h)
theorem args0 {l:List Ex} (h:l.length=0):l=[]:=Al_List_eq_nil_of_length_eq_zero h
theorem args1 {l:List Ex} (h:l.length=1):∃ a,l=[a]:=List.length_eq_one_iff.1 h
theorem args2 {l:List Ex} (h:l.length=2):∃ a b,l=[a,b]:=by
 match l,h with
 | [a,b],_=>exact ⟨a,b,Z⟩
theorem i64_zero {n:Int64} (h:n.toInt=0):n=0:=Al_Int64_toInt_inj.1 (by rw [h];rfl)
def binOp (op:UInt8):Bool:=decide (11<=op.toNat) && decide (op.toNat<=23)
theorem bin_facts:∀ op∈([11,12,13,14,15,16,17,18,19,20,21,22,23]:List UInt8),(shapeOf op).n=2/\(shapeOf op).nm=false/\1<=(shapeOf op).lv/\(shapeOf op).lv<=5/\opK ((shapeOf op).lv - 1) (symK op)=some op/\isK [91] (symK op)=false /\
 (∀ i∈List.range 5,(shapeOf op).lv<=i->opK i (symK op)=none)/\¬ op=1/\¬ op=5/\¬ op=8/\¬ op=6/\¬ op=7/\¬ op=9/\¬ op=10:=by decide
theorem ktE_bin {op:UInt8} (h:op∈([11,12,13,14,15,16,17,18,19,20,21,22,23]:List UInt8)) (nm:Str) (n:Int64) (a b:Ex) :
 ktE (.mk op nm n [a,b])=parK (lftT (shapeOf op).lv) a.lv (ktE a)++symK op::parK ((shapeOf op).lv+1) b.lv (ktE b):=by
 obtain ⟨h1,_,_,_,_,_,_,g1,g2,g3,g4,g5,g6,g7⟩:=bin_facts op h;rw [ktE,ktx,Al_if_neg g1,Al_if_neg g2,Al_if_neg g3,Al_if_neg g4,Al_if_neg g5,Al_if_neg g6,Al_if_neg g7,Al_if_neg (by omega)]
 rfl
theorem rd_bin {op:UInt8} (h:op∈([11,12,13,14,15,16,17,18,19,20,21,22,23]:List UInt8)) {a b:Ex} (ha:Rd a) (hb:Rd b) (ha1:1<=a.lv) (hb1:1<=b.lv):Rd (opE op [a,b]):=by
 intro le r hk;obtain ⟨_,_,h3,h4,h5,h6,h7,_⟩:=bin_facts op h;have hlv:(opE op [a,b]).lv=(shapeOf op).lv:=rfl;rw [hlv];rw [show opE op [a,b]=.mk op [] 0 [a,b] from rfl,ktE_bin h] at hk;obtain ⟨la,l1,rfl,hla,hk⟩:=Al_List_map_eq_append_iff.1 hk;obtain ⟨t,lb,rfl,ht,hlb⟩:=Al_List_map_eq_cons_iff.1 hk;generalize hL:(shapeOf op).lv=L at *;refine ⟨?_,λh8=>absurd h8 (by omega)⟩;have hst:∀ q,Stp L (t::q):=λq=>.of (by rw [ht];exact h7) (by rw [ht];exact h6)
 -- at its own level
 have own:Stp L r->pX (L - 1) (la++t::lb++r)=if L - 1=2 then .ok (opE op [a,b]) r else pL (L - 1) (opE op [a,b]) r:=by
  intro hs;have hopt:∀ q,opAt (L - 1) (t::q)=some op:=λq=>by rw [opAt_cons,ht];exact h5
  have hB:pX L (lb++r)=.ok b r:=by
   have:=hb.opnd hb1 (n:=L+1) hlb (by omega) (by omega) (r:=r) (by simpa using hs);simpa using this
  have hA:pX (L - 1) (la++(t::lb++r))=pL (L - 1) a (t::lb++r):=by
   by_cases h2:L=3
   ·subst h2;have:=ha.opnd ha1 (n:=4) (r:=t::lb++r) hla (by omega) (by omega) (hst _);rw [pX_low (by omega)];show (pX 3 _).bind _=_;rw [show (4:Nat) - 1=3 from rfl] at this;rw [this];rfl
   ·have e:lftT L=L - 1+1:=by unfold lftT;rw [Al_if_neg h2];omega
    rw [e] at hla;exact ha.left ha1 hla (by omega) (by omega) (by rw [show L - 1+1=L by omega];exact hst _)
  rw [Al_List_append_assoc,hA,Al_List_cons_append,pL_some (by omega) (hopt _)];show (pX (L - 1+1) (lb++r)).bind _=_;rw [show L - 1+1=L by omega,hB]
  rfl
 intro lv hl4 hl hs
 by_cases e:lv=L - 1
 ·subst e;rw [show L - 1+1=L by omega] at hs;rw [own hs];exact ifI (by omega)
 ·rw [Al_if_neg (by omega)];refine pX_up (L - 2 - lv) lv (L - 1) (by omega) (by omega) ?_ hs;rw [own (hs.up (by omega)),pL_none (hs.1 _ (by omega) (by omega))]
  split <;> rfl
theorem ktE_one {op:UInt8} {nm:Str} {n:Int64} {args:List Ex} {x:Kt} (h:ktE (.mk op nm n args)=[x]) {le:List Tk} (hk:le.map kt=ktE (.mk op nm n args)):∃ t,le=[t]/\kt t=x:=by
 rw [h] at hk;obtain ⟨t,l,rfl,ht,hl⟩:=Al_List_map_eq_cons_iff.1 hk;obtain rfl:=Al_List_map_eq_nil_iff.1 hl;exact ⟨t,Z,ht⟩
theorem rd_un {op:UInt8} {a:Ex} (ha:Rd a) (h1:1<=a.lv) (hop:op=9\/op=10):Rd (opE op [a]):=by
 refine .of (by rcases hop with rfl | rfl <;> exact (by decide:6<=6)) λle r hk h91=>?_
 have key:∃ t l,le=t::l/\kt t=(if op=9 then (4,[45]) else (2,[110,111,116]))/\l.map kt=parK 6 a.lv (ktE a):=by
  rcases hop with rfl | rfl
  ·obtain ⟨t,l,rfl,ht,hl⟩:=Al_List_map_eq_cons_iff.1 (show le.map kt=(4,[45])::parK 6 a.lv (ktE a) from hk);exact ⟨t,l,Z,ht,hl⟩
  ·obtain ⟨t,l,rfl,ht,hl⟩:=Al_List_map_eq_cons_iff.1 (show le.map kt=(2,[110,111,116])::parK 6 a.lv (ktE a) from hk);exact ⟨t,l,Z,ht,hl⟩
 obtain ⟨t,l,rfl,ht,hl⟩:=key;have hA:pX 5 (l++r)=.ok a r:=ha.opnd h1 (n:=6) hl (by omega) (by omega) ⟨λi h1 h2=>by omega,h91⟩;rw [Al_List_cons_append,pX_un];rcases hop with rfl | rfl
 ·rw [isT_cons,ht,Al_if_pos (by decide)];show (pX 5 (l++r)).bind _=_;rw [hA];rfl
 ·rw [isT_cons,isT_cons,ht,Al_if_neg (by decide),Al_if_pos (by decide)];show (pX 5 (l++r)).bind _=_;rw [hA];rfl
theorem rd_key {a:Ex} (ha:Rd a) (h1:1<=a.lv) {l r:List Tk} (hl:l.map kt=(4,[91])::(ktE a++[(4,[93])])):isT [91] (l++r)=true/\∀ (g:Ex->List Tk->Rs Ex),((pX 0 (l++r).tail).bind λx r4=>needT [93] r4 λr5=>g x r5)=g a r:=by
 obtain ⟨t,l1,rfl,ht,hk⟩:=Al_List_map_eq_cons_iff.1 hl;obtain ⟨l2,l3,rfl,h2,h3⟩:=Al_List_map_eq_append_iff.1 hk;obtain ⟨t2,l4,rfl,ht2,h4⟩:=Al_List_map_eq_cons_iff.1 h3;obtain rfl:=Al_List_map_eq_nil_iff.1 h4;refine ⟨by rw [Al_List_cons_append,isT_cons,ht];decide,λg=>?_⟩;have hf:=ha.full h2 (r:=t2::r) (lv:=0) (by omega) h1 (.of (by rw [ht2];decide) (by rw [ht2];decide));simp only [Al_List_cons_append,Al_List_append_assoc,Al_List_nil_append,Al_List_tail_cons];rw [hf];show needT [93] (t2::r) _=_;rw [needT,isT_cons,ht2,Al_if_pos (by decide)]
 rfl
theorem rd_all (e:Ex):Ex.all frmE e=true->Rd e/\1<=e.lv:=by
 induction e using Ex.ind with
 | _ op nm n args ih =>
  intro h;rw [all_mk,Al_Bool_and_eq_true] at h;obtain ⟨hf,hr⟩:=h;have ha:∀ a∈args,Rd a/\1<=a.lv:=λa m=>ih a m (alls_mem m hr);simp only [frmE,Al_Bool_and_eq_true,Al_Bool_or_eq_true,Al_decide_eq_true_eq] at hf;obtain ⟨⟨⟨hop,hl⟩,hnm⟩,hn⟩:=hf;refine ⟨?_,ok_lv hop⟩;have hm:=ok_cases hop
  by_cases h1:op=1
  ·subst h1;obtain rfl:=args0 hl;obtain rfl:nm=[]:=hnm.resolve_left (by decide);rw [Al_if_pos rfl,Al_decide_eq_true_eq] at hn;refine .of (show 6<=(shapeOf 1).lv by decide) λle r hk _=>?_;obtain ⟨t,rfl,ht⟩:=ktE_one (x:=(3,Lib.itoa n.toInt)) rfl hk;have hk3:t.k=3:=congrArg Prod.fst ht;have ht2:t.t=Lib.itoa n.toInt:=congrArg Prod.snd ht;have hlt:=n.toInt_lt;rw [Al_List_cons_append,Al_List_nil_append,pX_un,isT_cons,isT_cons,ht,Al_if_neg (by simp [isK]),Al_if_neg (by simp [isK]),primE];rw [Al_if_pos hk3,ht2,numV_itoa hn,Al_if_pos (by omega)]
   congr 2
   exact Al_Int64_toInt_inj.1 (by rw [Al_Int64_toInt_ofNat_of_lt (by omega)];omega)
  rw [Al_if_neg h1,Al_decide_eq_true_eq] at hn;obtain rfl:=i64_zero hn
  by_cases hb:op∈([11,12,13,14,15,16,17,18,19,20,21,22,23]:List UInt8)
  ·obtain ⟨b1,b2,_⟩:=bin_facts op hb;obtain ⟨a,b,rfl⟩:=args2 (l:=args) (by omega)
   obtain rfl : nm = [] := by rcases hnm with e | e
                              ·rw [b2] at e;cases e
                              ·exact e
   have h3:=ha a (by simp);have h4:=ha b (by simp);exact rd_bin hb h3.1 h4.1 h3.2 h4.2
  have hs:op=2\/op=3\/op=4\/op=5\/op=6\/op=7\/op=8\/op=9\/op=10:=((ok_split hop).resolve_left h1).resolve_left hb
  have cst:∀ (w:Str),op=2\/op=3\/op=4->w=(shapeOf op).tx->Rd (.mk op nm 0 args):=by
   intro w ho hw
   have hnil:args=[]:=by
    rcases ho with rfl | rfl | rfl <;> exact args0 hl
   have hnm0:nm=[]:=by
    rcases ho with rfl | rfl | rfl <;> exact hnm.resolve_left (by decide)
   subst hnil hnm0;refine .of (by rcases ho with rfl | rfl | rfl <;> exact (by decide:6<=7)) λle r hk _=>?_;rcases ho with rfl | rfl | rfl
   all_goals
    obtain ⟨t,rfl,ht⟩:=ktE_one rfl hk;have hk3:t.k=2:=congrArg Prod.fst ht;rw [Al_List_cons_append,Al_List_nil_append,pX_un,isT_cons,isT_cons,ht,Al_if_neg (by decide),Al_if_neg (by decide),primE];simp only [isT_cons,ht];rw [Al_if_neg (by rw [hk3];decide)]
   ·rw [Al_if_pos (by decide)];rfl
   ·rw [Al_if_neg (by decide),Al_if_pos (by decide)];rfl
   ·rw [Al_if_neg (by decide),Al_if_neg (by decide),Al_if_pos (by decide)];rfl
  rcases hs with rfl | rfl | rfl | rfl | rfl | rfl | rfl | rfl | rfl
  ·exact cst _ (.inl Z) rfl
  ·exact cst _ (.inr (.inl Z)) rfl
  ·exact cst _ (.inr (.inr Z)) rfl
  ·obtain rfl:=args0 hl;refine .of (show 6<=(shapeOf 5).lv by decide) λle r hk h91=>?_;obtain ⟨t,rfl,ht⟩:=ktE_one (x:=(1,nm)) rfl hk;have hk1:t.k=1:=congrArg Prod.fst ht;have ht2:t.t=nm:=congrArg Prod.snd ht;have hno:∀ w,isK w (1,nm)=false:=λw=>by simp [isK]
   rw [Al_List_cons_append,Al_List_nil_append,pX_un,isT_cons,isT_cons,ht,hno,hno,Al_if_neg (by decide),Al_if_neg (by decide),primE];simp only [isT_cons,ht,hno];rw [Al_if_neg (by rw [hk1];decide)];simp only [Al_Bool_false_eq_true,Al_if_false];rw [Al_if_pos hk1,h91,Al_if_neg (by decide),ht2]
  ·obtain ⟨a,rfl⟩:=args1 hl;obtain ⟨ra,r1⟩:=ha a (by simp);refine .of (show 6<=(shapeOf 6).lv by decide) λle r hk h91=>?_;obtain ⟨t,l,rfl,ht,hl⟩:=Al_List_map_eq_cons_iff.1 (show le.map kt=(1,nm)::(4,[91])::(ktE a++[(4,[93])]) from hk);have hk1:t.k=1:=congrArg Prod.fst ht;have ht2:t.t=nm:=congrArg Prod.snd ht;have hno:∀ w,isK w (1,nm)=false:=λw=>by simp [isK]
   obtain ⟨k1,k2⟩:=rd_key ra r1 hl (r:=r);rw [Al_List_cons_append,pX_un,isT_cons,isT_cons,ht,hno,hno,Al_if_neg (by decide),Al_if_neg (by decide),primE];simp only [isT_cons,ht,hno];rw [Al_if_neg (by rw [hk1];decide)];simp only [Al_Bool_false_eq_true,Al_if_false];rw [Al_if_pos hk1,k1,Al_if_pos rfl,k2,ht2]
  ·obtain ⟨a,rfl⟩:=args1 hl;obtain ⟨ra,r1⟩:=ha a (by simp);refine .of (show 6<=(shapeOf 7).lv by decide) λle r hk h91=>?_;obtain ⟨t,l,rfl,ht,hl⟩:=Al_List_map_eq_cons_iff.1 (show le.map kt=(2,[104,97,115])::(1,nm)::(4,[91])::(ktE a++[(4,[93])]) from hk);obtain ⟨t2,l2,rfl,ht2,hl⟩:=Al_List_map_eq_cons_iff.1 hl;have hk1:t.k=2:=congrArg Prod.fst ht;have hk2:t2.k=1:=congrArg Prod.fst ht2;have ht3:t2.t=nm:=congrArg Prod.snd ht2;obtain ⟨k1,k2⟩:=rd_key ra r1 hl (r:=r);rw [Al_List_cons_append,pX_un,isT_cons,isT_cons,ht,Al_if_neg (by decide),Al_if_neg (by decide),primE];simp only [isT_cons,ht];rw [Al_if_neg (by rw [hk1];decide),Al_if_neg (by decide),Al_if_neg (by decide),Al_if_neg (by decide),Al_if_neg (by decide),Al_if_neg (by decide),Al_if_pos (by decide),Al_List_cons_append,nameT];rw [Al_if_pos hk2,needT,k1,Al_if_pos rfl,k2,ht3]
  ·obtain rfl:=args0 hl;refine .of (show 6<=(shapeOf 8).lv by decide) λle r hk h91=>?_;obtain ⟨t,l,rfl,ht,hl⟩:=Al_List_map_eq_cons_iff.1 (show le.map kt=(2,[115,105,122,101])::(1,nm)::[] from hk);obtain ⟨t2,l2,rfl,ht2,hl⟩:=Al_List_map_eq_cons_iff.1 hl;obtain rfl:=Al_List_map_eq_nil_iff.1 hl;have hk1:t.k=2:=congrArg Prod.fst ht;have hk2:t2.k=1:=congrArg Prod.fst ht2;have ht3:t2.t=nm:=congrArg Prod.snd ht2;rw [Al_List_cons_append,pX_un,isT_cons,isT_cons,ht,Al_if_neg (by decide),Al_if_neg (by decide),primE];simp only [isT_cons,ht];rw [Al_if_neg (by rw [hk1];decide),Al_if_neg (by decide),Al_if_neg (by decide),Al_if_neg (by decide),Al_if_pos (by decide),Al_List_cons_append,nameT];rw [Al_if_pos hk2,ht3];rfl
  ·obtain ⟨a,rfl⟩:=args1 hl;obtain ⟨ra,r1⟩:=ha a (by simp);obtain rfl:nm=[]:=hnm.resolve_left (by decide);exact rd_un ra r1 (.inl Z)
  ·obtain ⟨a,rfl⟩:=args1 hl;obtain ⟨ra,r1⟩:=ha a (by simp);obtain rfl:nm=[]:=hnm.resolve_left (by decide);exact rd_un ra r1 (.inr Z)
abbrev Pz (α:Type):=List Tk->Rs α
section
variable {α β:Type}
def gPure (a:α):Pz α:=λr=>.ok a r
def gBind (p:Pz α) (f:α->Pz β):Pz β:=λr=>(p r).bind f
def gNd (w:Str):Pz Unit:=λr=>if isT w r then .ok () r.tail else .er r 8
def gNm:Pz Str:=λr=>match r with | []=>.er r 8 | t::q=>if t.k=1 then .ok t.t q else .er r 8
def gNu:Pz Int64:=λr=>match r with | []=>.er r 8 | t::q=>if t.k=3 then (if numV t.t<=9223372036854775807 then .ok (Int64.ofNat (numV t.t)) q else .er r 2) else .er r 8
def gAlt (w:Str) (p q:Pz α):Pz α:=λr=>if isT w r then p r.tail else q r
def gManyF (w:Str) (p:Pz α):Nat->Pz (List α)
 | 0=>λr=>.er r 99
 | f+1=>gAlt w (gBind p λa=>gBind (gManyF w p f) λl=>gPure (a::l)) (gPure [])
def gMany (w:Str) (p:Pz α):Pz (List α):=λr=>gManyF w p (r.length+1) r
end
def gEx:Pz Ex:=pX 0
def gBlk (b:Pz (List Sm)):Pz (List Sm):=gBind (gNd [123]) λ_=>gBind b λl=>gBind (gNd [125]) λ_=>gPure l
def gEls (b:Pz (List Sm)):Pz (List Sm):=gAlt [101,108,115,101] (gBlk b) (gPure [])
def gOth (b:Pz (List Sm)):Pz (List Sm):=gAlt [101,108,115,101] (gBlk b) (gBind (gNd [59]) λ_=>gPure [])
def gList {α:Type} (p:Pz α):Pz (List α):=gBind (gNd [40]) λ_=>gAlt [41] (gPure []) (gBind p λa=>gBind (gMany [44] p) λl=>gBind (gNd [41]) λ_=>gPure (a::l))
def gSt (b:Pz (List Sm)):Pz Sm :=
 gAlt [105,102] (gBind gEx λe=>gBind (gBlk b) λt=>gBind (gEls b) λl=>gPure (.mk 4 [] [] [e] t l))<|gAlt [119,104,105,108,101] (gBind gEx λe=>gBind (gBlk b) λt=>gPure (.mk 5 [] [] [e] t []))<|gAlt [115,116,111,114,101] (gBind gEx λe=>gBind (gNd [61]) λ_=>gBind gEx λe2=>gBind (gOth b) λl=>gPure (.mk 8 [] [] [e,e2] [] l))<|gAlt [102,101,116,99,104] (gBind gNm λn=>gBind (gNd [61]) λ_=>gBind gEx λe=>gBind (gOth b) λl=>gPure (.mk 9 n [] [e] [] l))<|gAlt [115,101,110,100] (gBind gNm λn=>gBind (gNd [46]) λ_=>gBind gNm λh=>gBind (gList gEx) λl=>gBind (gNd [59]) λ_=>gPure (.mk 6 n h l [] []))<|gAlt [97,102,116,101,114] (gBind gEx λe=>gBind (gNd [100,111]) λ_=>gBind gNm λh=>gBind (gList gEx) λl=>gBind (gNd [59]) λ_=>gPure (.mk 7 [] h (e::l) [] []))<|gAlt [115,116,111,112] (gBind (gNd [59]) λ_=>gPure (.mk 10 [] [] [] [] []))<|gAlt [100,101,108,101,116,101] (gBind gNm λn=>gBind (gNd [91]) λ_=>gBind gEx λe=>gBind (gNd [93]) λ_=>gBind (gNd [59]) λ_=>gPure (.mk 3 n [] [e] [] []))<|gBind gNm λn=>gAlt [91] (gBind gEx λe=>gBind (gNd [93]) λ_=>gBind (gNd [61]) λ_=>gBind gEx λe2=>gBind (gNd [59]) λ_=>gPure (.mk 2 n [] [e,e2] [] []))
  (gBind (gNd [61]) λ_=>gBind gEx λe=>gBind (gNd [59]) λ_=>gPure (.mk 1 n [] [e] [] []))
def gBF:Nat->Pz (List Sm)
 | 0=>λr=>.er r 99
 | f+1=>λr=>if isT [125] r then .ok [] r else (gSt (gBF f) r).bind λs r1=>(gBF f r1).bind λl r2=>.ok (s::l) r2
def gB:Pz (List Sm):=λr=>gBF (r.length+1) r
def gInt:Pz Int64:=gAlt [45] (gBind gNu λv=>gPure (-v)) gNu
def gHd:Pz Hd:=gBind gNm λn=>gBind (gList gNm) λl=>gBind (gBlk gB) λb=>gPure ⟨n,l,b⟩
/-! ### Rules that consume -/
section
variable {α β:Type}
def Shr (p:Pz α):Prop:=∀ r a r',p r=.ok a r'->r'.length<=r.length
def Shs (p:Pz α):Prop:=∀ r a r',p r=.ok a r'->r'.length<r.length
theorem Shs.le {p:Pz α} (h:Shs p):Shr p:=λr a r' e=>Al_Nat_le_of_lt (h r a r' e)
theorem Shr.pure (a:α):Shr (gPure a):=λr a r' e=>by injection e with _ e;subst e;exact Al_Nat_le_refl _
theorem Shr.bind {p:Pz α} {f:α->Pz β} (h:Shr p) (k:∀ a,Shr (f a)):Shr (gBind p f):=λr b r' e=>by
 obtain ⟨a,q,h1,h2⟩:=Rs.bind_ok e;have:=h _ _ _ h1;have:=k _ _ _ _ h2;omega
theorem Shs.bind {p:Pz α} {f:α->Pz β} (h:Shs p) (k:∀ a,Shr (f a)):Shs (gBind p f):=λr b r' e=>by
 obtain ⟨a,q,h1,h2⟩:=Rs.bind_ok e;have:=h _ _ _ h1;have:=k _ _ _ _ h2;omega
theorem Shs.nd (w:Str):Shs (gNd w):=λr a r' e=>by
 unfold gNd at e
 split at e
 ·rename_i h;injection e with _ e;subst e;have:=isT_ne h;omega
 ·cases e
theorem Shs.nm:Shs gNm:=λr a r' e=>by
 unfold gNm at e
 split at e
 ·cases e
 ·split at e
  ·injection e with _ e;subst e;simp
  ·cases e
theorem Shs.nu:Shs gNu:=λr a r' e=>by
 unfold gNu at e
 split at e
 ·cases e
 ·split at e
  ·split at e
   ·injection e with _ e;subst e;simp
   ·cases e
  ·cases e
theorem Shs.ex:Shs gEx:=λr a r' e=>(pE_len _).1 _ _ _ _ e
theorem Shr.alt {w:Str} {p q:Pz α} (h:Shr p) (k:Shr q):Shr (gAlt w p q):=λr a r' e=>by
 unfold gAlt at e
 split at e
 ·rename_i h2;have:=isT_ne h2;have:=h _ _ _ e;omega
 ·exact k _ _ _ e
theorem Shs.alt {w:Str} {p q:Pz α} (h:Shr p) (k:Shs q):Shs (gAlt w p q):=λr a r' e=>by
 unfold gAlt at e
 split at e
 ·rename_i h2;have:=isT_ne h2;have:=h _ _ _ e;omega
 ·exact k _ _ _ e
theorem Shr.many {w:Str} {p:Pz α} (h:Shr p):Shr (gMany w p):=by
 have key:∀ f,Shr (gManyF w p f):=λf=>by
  induction f with
  | zero=>intro r a r' e;cases e
  | succ f ih=>exact .alt (.bind h λa=>.bind ih λl=>.pure _) (.pure _)
 exact λr a r' e=>key _ _ _ _ e
theorem gManyF_more {w:Str} {p:Pz α} (h:Shr p):∀ (f g:Nat) (r:List Tk),r.length<f->r.length<g->gManyF w p f r=gManyF w p g r
 | 0,_,_,k,_=>by omega
 | _,0,_,_,k=>by omega
 | f+1,g+1,r,k1,k2=>by
  unfold gManyF gAlt
  split
  ·rename_i e;have:=isT_ne e;refine Rs.bind_congr rfl λa q e2=>?_;have:=h _ _ _ e2;exact Rs.bind_congr (gManyF_more h f g q (by omega) (by omega)) λ_ _ _=>rfl
  ·rfl
theorem gMany_eq {w:Str} {p:Pz α} (h:Shr p):gMany w p=gAlt w (gBind p λa=>gBind (gMany w p) λl=>gPure (a::l)) (gPure []):=funext λr=>by
 unfold gMany
 conv=>lhs;unfold gManyF
 unfold gAlt
 split
 ·rename_i e;have:=isT_ne e;refine Rs.bind_congr rfl λa q e2=>?_;have:=h _ _ _ e2;exact Rs.bind_congr (gManyF_more h _ _ q (by omega) (by omega)) λ_ _ _=>rfl
 ·rfl
theorem Shs.list {p:Pz α} (h:Shr p):Shs (gList p):=.bind (.nd _) λ_=>.alt (.pure _) (.bind h λ_=>.bind (.many h) λ_=>.bind (Shs.nd _).le λ_=>.pure _)
/-! ### Rules that agree on short lists of tokens -/
def Agz (n:Nat) (p q:Pz α):Prop:=∀ r,r.length<=n->p r=q r
theorem Agz.rfl' {n:Nat} {p:Pz α}:Agz n p p:=λ_ _=>rfl
theorem Agz.bind {n:Nat} {p q:Pz α} {f g:α->Pz β} (hp:Shr p) (h:Agz n p q) (k:∀ a,Agz n (f a) (g a)):Agz n (gBind p f) (gBind q g):=λr hr =>
 Rs.bind_congr (h r hr) λa r' e=>k a r' (Al_Nat_le_trans (hp _ _ _ e) hr)
theorem Agz.alt {n:Nat} {w:Str} {p q p' q':Pz α} (h:Agz (n - 1) p p') (k:Agz n q q'):Agz n (gAlt w p q) (gAlt w p' q'):=λr hr=>by
 unfold gAlt
 split
 ·rename_i e;have:=isT_ne e;exact h _ (by omega)
 ·exact k r hr
theorem Agz.altr {n:Nat} {w:Str} {p q p' q':Pz α} (h:Agz n p p') (k:Agz n q q'):Agz n (gAlt w p q) (gAlt w p' q'):=.alt (λr hr=>h r (by omega)) k
end
theorem Shs.blk {b:Pz (List Sm)} (h:Shr b):Shs (gBlk b):=.bind (.nd _) λ_=>.bind h λ_=>.bind (Shs.nd _).le λ_=>.pure _
theorem Shr.els {b:Pz (List Sm)} (h:Shr b):Shr (gEls b):=.alt (Shs.blk h).le (.pure _)
theorem Shr.oth {b:Pz (List Sm)} (h:Shr b):Shr (gOth b):=.alt (Shs.blk h).le (.bind (Shs.nd _).le λ_=>.pure _)
theorem Shs.st {b:Pz (List Sm)} (h:Shr b):Shs (gSt b) :=
 .alt (.bind Shs.ex.le λ_=>.bind (Shs.blk h).le λ_=>.bind (.els h) λ_=>.pure _)<|.alt (.bind Shs.ex.le λ_=>.bind (Shs.blk h).le λ_=>.pure _)<|.alt (.bind Shs.ex.le λ_=>.bind (Shs.nd _).le λ_=>.bind Shs.ex.le λ_=>.bind (.oth h) λ_=>.pure _)<|.alt (.bind Shs.nm.le λ_=>.bind (Shs.nd _).le λ_=>.bind Shs.ex.le λ_=>.bind (.oth h) λ_=>.pure _)<|.alt (.bind Shs.nm.le λ_=>.bind (Shs.nd _).le λ_=>.bind Shs.nm.le λ_=>.bind (Shs.list Shs.ex.le).le λ_=>.bind (Shs.nd _).le λ_=>.pure _)<|.alt (.bind Shs.ex.le λ_=>.bind (Shs.nd _).le λ_=>.bind Shs.nm.le λ_=>.bind (Shs.list Shs.ex.le).le λ_=>.bind (Shs.nd _).le λ_=>.pure _)<|.alt (.bind (Shs.nd _).le λ_=>.pure _)<|.alt (.bind Shs.nm.le λ_=>.bind (Shs.nd _).le λ_=>.bind Shs.ex.le λ_=>.bind (Shs.nd _).le λ_=>.bind (Shs.nd _).le λ_=>.pure _)<|.bind .nm λ_=>.alt (.bind Shs.ex.le λ_=>.bind (Shs.nd _).le λ_=>.bind (Shs.nd _).le λ_=>.bind Shs.ex.le λ_=>.bind (Shs.nd _).le λ_=>.pure _) (.bind (Shs.nd _).le λ_=>.bind Shs.ex.le λ_=>.bind (Shs.nd _).le λ_=>.pure _)
theorem Agz.blk {b c:Pz (List Sm)} (h:Agz n b c) (hb:Shr b):Agz n (gBlk b) (gBlk c):=.bind (Shs.nd _).le .rfl' λ_=>.bind hb h λ_=>.rfl'
theorem Agz.els {b c:Pz (List Sm)} (h:Agz n b c) (hb:Shr b):Agz n (gEls b) (gEls c):=.altr (.blk h hb) .rfl'
theorem Agz.oth {b c:Pz (List Sm)} (h:Agz n b c) (hb:Shr b):Agz n (gOth b) (gOth c):=.altr (.blk h hb) .rfl'
theorem Agz.st {b c:Pz (List Sm)} (h:Agz (n - 1) b c) (hb:Shr b):Agz n (gSt b) (gSt c) :=
 .alt (.bind Shs.ex.le .rfl' λ_=>.bind (Shs.blk hb).le (.blk h hb) λ_=>.bind (.els hb) (.els h hb) λ_=>.rfl')<|.alt (.bind Shs.ex.le .rfl' λ_=>.bind (Shs.blk hb).le (.blk h hb) λ_=>.rfl')<|.alt (.bind Shs.ex.le .rfl' λ_=>.bind (Shs.nd _).le .rfl' λ_=>.bind Shs.ex.le .rfl' λ_=>.bind (.oth hb) (.oth h hb) λ_=>.rfl')<|.alt (.bind Shs.nm.le .rfl' λ_=>.bind (Shs.nd _).le .rfl' λ_=>.bind Shs.ex.le .rfl' λ_=>.bind (.oth hb) (.oth h hb) λ_=>.rfl') .rfl'
theorem gBF_shr:∀ f,Shr (gBF f)
 | 0=>λ_ _ _ e=>by cases e
 | f+1=>λr a r' e=>by
  unfold gBF at e
  split at e
  ·injection e with _ e;subst e;exact Al_Nat_le_refl _
  ·obtain ⟨s,q,h1,h2⟩:=Rs.bind_ok e;obtain ⟨l,q2,h3,h4⟩:=Rs.bind_ok h2;injection h4 with _ h4;subst h4
   have:=(Shs.st (gBF_shr f)) _ _ _ h1;have:=gBF_shr f _ _ _ h3;omega
theorem Shr.b:Shr gB:=λ_ _ _ e=>gBF_shr _ _ _ _ e
theorem gBF_more:∀ (f g:Nat) (r:List Tk),r.length<f->r.length<g->gBF f r=gBF g r
 | 0,_,_,k,_=>by omega
 | _,0,_,_,k=>by omega
 | f+1,g+1,[],_,_=>rfl
 | f+1,g+1,t::r,k1,k2=>by
  unfold gBF;simp only [Al_List_length_cons] at k1 k2;refine ifC rfl (Rs.bind_congr (Agz.st (n:=(t::r).length) (λq hq=>?_) (gBF_shr f) _ (Al_Nat_le_refl _)) λs q e=>?_)
  ·simp only [Al_List_length_cons] at hq;exact gBF_more f g q (by omega) (by omega)
  ·have:=(Shs.st (gBF_shr f)) _ _ _ e;simp only [Al_List_length_cons] at this;exact Rs.bind_congr (gBF_more f g q (by omega) (by omega)) λ_ _ _=>rfl
theorem gB_eq (r:List Tk):gB r=if isT [125] r then .ok [] r else (gSt gB r).bind λs r1=>(gB r1).bind λl r2=>.ok (s::l) r2:=by
 match r with
 | []=>rfl
 | t::r =>
  conv=>lhs;unfold gB;unfold gBF
  refine ifC rfl (Rs.bind_congr (Agz.st (n:=(t::r).length) (λq hq=>?_) (gBF_shr _) _ (Al_Nat_le_refl _)) λs q e=>?_)
  ·simp only [Al_List_length_cons] at hq;exact gBF_more _ _ q (by simp only [Al_List_length_cons];omega) (by omega)
  ·have:=(Shs.st (gBF_shr _)) _ _ _ e;exact Rs.bind_congr (gBF_more _ _ q (by omega) (by omega)) λ_ _ _=>rfl
def hdO (r:List Tk):Option Kt:=r.head?.map kt
def hdC (k:List Kt) (o:Option Kt):Option Kt:=match k with | []=>o | x::_=>some x
theorem hdO_app {l r:List Tk} {k:List Kt} (h:l.map kt=k):hdO (l++r)=hdC k (hdO r):=by
 subst h;cases l <;> rfl
def anyO (_:Option Kt):Prop:=True
def notW (w:Str):Option Kt->Prop
 | none=>True
 | some x=>isK w x=false
def stpO:Option Kt->Prop
 | none=>True
 | some x=>(∀ i∈List.range 5,opK i x=none)/\isK [91] x=false
theorem isT_hdO (w:Str) (r:List Tk):isT w r=match hdO r with | none=>false | some x=>isK w x:=by cases r <;> rfl
variable {w:Str}
theorem notW_isT {r:List Tk} (h:notW w (hdO r)):isT w r=false:=by
 rw [isT_hdO];cases e:hdO r with
 | none=>rfl
 | some x=>rw [e] at h;exact h
section
variable {α β:Type}
def Rdc (p:Pz α) (ks:List Kt) (v:α) (C:Option Kt->Prop):Prop:=∀ le r,le.map kt=ks->C (hdO r)->p (le++r)=.ok v r
variable {k k1 k2:List Kt} {v a:α} {C C1 C2:Option Kt->Prop} {w:Str} {x:Kt}
theorem Rdc.pure:Rdc (gPure v) [] v C:=λle r e _=>by
 obtain rfl:=Al_List_map_eq_nil_iff.1 e;rfl
theorem Rdc.seq {p:Pz α} {f:α->Pz β} {b:β} (h1:Rdc p k1 a C1) (hc:∀ o,C2 o->C1 (hdC k2 o)) (h2:Rdc (f a) k2 b C2):Rdc (gBind p f) (k1++k2) b C2:=λle r e c=>by
 obtain ⟨l1,l2,rfl,e1,e2⟩:=Al_List_map_eq_append_iff.1 e;unfold gBind;rw [Al_List_append_assoc,h1 l1 (l2++r) e1 (by rw [hdO_app e2];exact hc _ c)];exact h2 l2 r e2 c
theorem Rdc.nd {f:Unit->Pz β} {b:β} (hx:isK w x=true) (h:Rdc (f ()) k b C):Rdc (gBind (gNd w) f) (x::k) b C:=λle r e c=>by
 obtain ⟨t,l,rfl,ht,hl⟩:=Al_List_map_eq_cons_iff.1 e;unfold gBind gNd;rw [Al_List_cons_append,isT_cons,ht,hx];exact h l r hl c
theorem Rdc.nm {f:Str->Pz β} {b:β} (h:Rdc (f w) k b C):Rdc (gBind gNm f) ((1,w)::k) b C:=λle r e c=>by
 obtain ⟨t,l,rfl,ht,hl⟩:=Al_List_map_eq_cons_iff.1 e;have h1:t.k=1:=congrArg Prod.fst ht;have h2:t.t=w:=congrArg Prod.snd ht;unfold gBind gNm;rw [Al_List_cons_append];simp only [h1,h2,Al_if_true];exact h l r hl c
theorem Rdc.nm1:Rdc gNm [(1,w)] w C:=λle r e c=>by
 obtain ⟨t,l,rfl,ht,hl⟩:=Al_List_map_eq_cons_iff.1 e;obtain rfl:=Al_List_map_eq_nil_iff.1 hl;have h1:t.k=1:=congrArg Prod.fst ht;have h2:t.t=w:=congrArg Prod.snd ht;unfold gNm;rw [Al_List_cons_append];simp only [h1,h2,Al_if_true]
 rfl
theorem Rdc.nu {u:Nat} (h:u<=9223372036854775807):Rdc gNu [(3,Lib.decDigits u)] (Int64.ofNat u) C:=λle r e c=>by
 obtain ⟨t,l,rfl,ht,hl⟩:=Al_List_map_eq_cons_iff.1 e;obtain rfl:=Al_List_map_eq_nil_iff.1 hl;have h1:t.k=3:=congrArg Prod.fst ht;have h2:t.t=Lib.decDigits u:=congrArg Prod.snd ht;unfold gNu;rw [Al_List_cons_append];simp only [h1,h2,Al_if_true,numV_digits,h]
 rfl
theorem Rdc.altT {p q:Pz α} (hx:isK w x=true) (h:Rdc p k v C):Rdc (gAlt w p q) (x::k) v C:=λle r e c=>by
 obtain ⟨t,l,rfl,ht,hl⟩:=Al_List_map_eq_cons_iff.1 e;unfold gAlt;rw [Al_List_cons_append,isT_cons,ht,hx];exact h l r hl c
theorem Rdc.altF {p q:Pz α} (hx:isK w x=false) (h:Rdc q (x::k) v C):Rdc (gAlt w p q) (x::k) v C:=λle r e c=>by
 have h2:=h le r e c;obtain ⟨t,l,rfl,ht,hl⟩:=Al_List_map_eq_cons_iff.1 e;unfold gAlt;rw [Al_List_cons_append,isT_cons,ht,hx];exact h2
theorem Rdc.altE {p q:Pz α} (hc:∀ o,C o->notW w o) (h:Rdc q [] v C):Rdc (gAlt w p q) [] v C:=λle r e c=>by
 have h2:=h le r e c;obtain rfl:=Al_List_map_eq_nil_iff.1 e;unfold gAlt;rw [Al_List_nil_append,notW_isT (hc _ c),Al_if_neg (by decide)];exact h2
theorem Rdc.many {p:Pz α} (hp:Shr p) (hx:isK w x=true) {g:α->List Kt} {Cp:Option Kt->Prop} (h1:Cp (some x)) (hc:∀ o,C o->Cp o/\notW w o):∀ l:List α,(∀ a∈l,Rdc p (g a) a Cp)->Rdc (gMany w p) ((l.map λa=>x::g a).flatten) l C
 | [],_=>by
  rw [gMany_eq hp];exact .altE (λo c=>(hc o c).2) .pure
 | a::l,h=>by
  have ih:=Rdc.many hp hx h1 hc l λb hb=>h b (Al_List_mem_cons_of_mem _ hb);rw [gMany_eq hp];simp only [Al_List_map_cons,Al_List_flatten_cons,Al_List_cons_append];refine .altT hx (.seq (h a (Al_List_mem_cons_self ..)) (λo c=>?_) ?_)
  ·cases l with
   | nil=>exact (hc o c).1
   | cons b l=>exact h1
  ·have:=Rdc.seq (f:=λl=>gPure (a::l)) (k2:=[]) ih (λo c=>c) .pure
   rwa [Al_List_append_nil] at this
def comK (l:List (List Kt)):List Kt:=(l.map λk=>(4,[44])::k).flatten
def sepK:List (List Kt)->List Kt
 | []=>[]
 | k::l=>k++comK l
def lstK (l:List (List Kt)):List Kt:=(4,[40])::(sepK l++[(4,[41])])
theorem Rdc.list {p:Pz α} (hp:Shr p) {g:α->List Kt} {Cp:Option Kt->Prop} (h1:Cp (some (4,[44]))) (h2:Cp (some (4,[41]))) {l:List α} (h:∀ a∈l,Rdc p (g a) a Cp) (hg:∀ a∈l,∃ x k,g a=x::k/\isK [41] x=false):Rdc (gList p) (lstK (l.map g)) l C:=by
 refine .nd Z ?_;cases l with
 | nil=>exact .altT rfl .pure
 | cons a l =>
  obtain ⟨x,k,e,hk⟩:=hg a (Al_List_mem_cons_self ..);have ha:=h a (Al_List_mem_cons_self ..)
  have hm:Rdc (gMany [44] p) (comK (l.map g)) l (λo=>o=some (4,[41])):=by
   have:=Rdc.many (C:=λo=>o=some (4,[41])) hp (w:=[44]) (x:=(4,[44])) rfl (g:=g) h1 (λo c=>by subst c;exact ⟨h2,Z⟩) l λb hb=>h b (Al_List_mem_cons_of_mem _ hb);unfold comK
   rwa [Al_List_map_map]
  have key:Rdc (gBind p λa=>gBind (gMany [44] p) λl=>gBind (gNd [41]) λ_=>gPure (a::l)) (g a++(comK (l.map g)++[(4,[41])])) (a::l) C:=by
   refine .seq ha (λo c=>?_) (.seq hm (λo c=>rfl) (.nd Z .pure));cases l with
   | nil=>exact h2
   | cons b l=>exact h1
  simp only [Al_List_map_cons,sepK,Al_List_append_assoc];rw [e] at key|-;exact .altF hk key
end
def stK (kd:UInt8) (nm hd:Str) (es:List (List Kt)) (T:List Kt) (noE:Bool) (E:List Kt):List Kt :=
 if kd=1 then (1,nm)::(4,[61])::(es.getD 0 []++[(4,[59])])
 else if kd=2 then (1,nm)::(4,[91])::(es.getD 0 []++(4,[93])::(4,[61])::(es.getD 1 []++[(4,[59])]))
 else if kd=3 then (2,[100,101,108,101,116,101])::(1,nm)::(4,[91])::(es.getD 0 []++[(4,[93]),(4,[59])])
 else if kd=4 then (2,[105,102])::(es.getD 0 []++((4,[123])::(T++[(4,[125])])++if noE then [] else (2,[101,108,115,101])::(4,[123])::(E++[(4,[125])])))
 else if kd=5 then (2,[119,104,105,108,101])::(es.getD 0 []++(4,[123])::(T++[(4,[125])]))
 else if kd=6 then (2,[115,101,110,100])::(1,nm)::(4,[46])::(1,hd)::(lstK es++[(4,[59])])
 else if kd=7 then (2,[97,102,116,101,114])::(es.getD 0 []++(2,[100,111])::(1,hd)::(lstK (es.drop 1)++[(4,[59])]))
 else if kd=8 then (2,[115,116,111,114,101])::(es.getD 0 []++(4,[61])::(es.getD 1 []++if noE then [(4,[59])] else (2,[101,108,115,101])::(4,[123])::(E++[(4,[125])])))
 else if kd=9 then (2,[102,101,116,99,104])::(1,nm)::(4,[61])::(es.getD 0 []++if noE then [(4,[59])] else (2,[101,108,115,101])::(4,[123])::(E++[(4,[125])]))
 else [(2,[115,116,111,112]),(4,[59])]
mutual
def ktS:Sm->List Kt
 | .mk kd nm hd ex th el=>stK kd nm hd (ex.map ktE) (ktSs th) (decide (el.length=0)) (ktSs el)
def ktSs:List Sm->List Kt
 | []=>[]
 | s::r=>ktS s++ktSs r
end
theorem ktS_mk (kd:UInt8) (nm hd:Str) (ex:List Ex) (th el:List Sm):ktS (.mk kd nm hd ex th el)=stK kd nm hd (ex.map ktE) (ktSs th) (decide (el.length=0)) (ktSs el):=by rw [ktS]
theorem Rdc.ex {e:Ex} (h:Ex.all frmE e=true):Rdc gEx (ktE e) e stpO:=λle r hk c=>by
 obtain ⟨h1,h2⟩:=rd_all e h;refine h1.full hk (by omega) h2 ⟨λi _ h4=>?_,?_⟩
 ·cases r with
  | nil=>unfold opAt isT;simp
  | cons t r=>exact c.1 i (Al_List_mem_range.2 (by omega))
 ·cases r with
  | nil=>rfl
  | cons t r=>exact c.2
theorem ktE_hd (e:Ex):Ex.all frmE e=true->∃ x k,ktE e=x::k/\isK [41] x=false:=by
 induction e using Ex.ind with
 | _ op nm n args ih =>
  intro h;rw [all_mk,Al_Bool_and_eq_true] at h;obtain ⟨hf,hr⟩:=h;have ha:∀ a∈args,∃ x k,ktE a=x::k/\isK [41] x=false:=λa m=>ih a m (alls_mem m hr);simp only [frmE,Al_Bool_and_eq_true,Al_Bool_or_eq_true,Al_decide_eq_true_eq] at hf;obtain ⟨⟨⟨hop,hl⟩,_⟩,_⟩:=hf
  by_cases h1:op=1
  ·subst h1;exact ⟨_,_,Z,by simp [isK]⟩
  by_cases hb:op∈([11,12,13,14,15,16,17,18,19,20,21,22,23]:List UInt8)
  ·obtain ⟨b1,_⟩:=bin_facts op hb;obtain ⟨a,b,rfl⟩:=args2 (l:=args) (by omega);rw [ktE_bin hb];unfold parK
   split
   ·exact ⟨_,_,Z,Z⟩
   ·obtain ⟨x,k,e,hx⟩:=ha a (by simp);rw [e];exact ⟨_,_,Z,hx⟩
  have hs:op=2\/op=3\/op=4\/op=5\/op=6\/op=7\/op=8\/op=9\/op=10:=((ok_split hop).resolve_left h1).resolve_left hb;rcases hs with rfl | rfl | rfl | rfl | rfl | rfl | rfl | rfl | rfl
  all_goals first | exact ⟨_,_,Z,Z⟩ | exact ⟨_,_,Z,by decide⟩
theorem Rdc.exs {C:Option Kt->Prop} {l:List Ex} (h:∀ a∈l,Ex.all frmE a=true):Rdc (gList gEx) (lstK (l.map ktE)) l C :=
 .list Shs.ex.le ⟨by decide,by decide⟩ ⟨by decide,by decide⟩ (λa ha=>.ex (h a ha)) λa ha=>ktE_hd a (h a ha)
def endB (o:Option Kt):Prop:=o=some (4,[125])
theorem Rdc.blk {C:Option Kt->Prop} {l:List Sm} (h:Rdc gB (ktSs l) l endB):Rdc (gBlk gB) ((4,[123])::(ktSs l++[(4,[125])])) l C :=
 .nd rfl (.seq h (λ_ _=>rfl) (.nd rfl .pure))
theorem okKd_cases {kd:UInt8} (h:okKd kd=true):kd=1\/kd=2\/kd=3\/kd=4\/kd=5\/kd=6\/kd=7\/kd=8\/kd=9\/kd=10:=by
 simp only [okKd,Al_Bool_and_eq_true,Al_decide_eq_true_eq] at h;have key:∀ i∈List.range 11,1<=i->(UInt8.ofNat i=1\/UInt8.ofNat i=2\/UInt8.ofNat i=3\/UInt8.ofNat i=4\/UInt8.ofNat i=5\/UInt8.ofNat i=6\/UInt8.ofNat i=7\/UInt8.ofNat i=8\/UInt8.ofNat i=9\/UInt8.ofNat i=10):=by decide
 have:=key kd.toNat (Al_List_mem_range.2 (by omega)) h.1
 rwa [Al_UInt8_ofNat_toNat] at this
theorem exs1 {l:List Ex} (h:l.length=1) (hf:Ex.alls frmE l=true):∃ a,l=[a]/\Ex.all frmE a=true:=by
 obtain ⟨a,rfl⟩:=args1 h;exact ⟨a,Z,alls_mem (by simp) hf⟩
theorem exs2 {l:List Ex} (h:l.length=2) (hf:Ex.alls frmE l=true):∃ a b,l=[a,b]/\Ex.all frmE a=true/\Ex.all frmE b=true:=by
 obtain ⟨a,b,rfl⟩:=args2 h;exact ⟨a,b,Z,alls_mem (by simp) hf,alls_mem (by simp) hf⟩
inductive FmS:Sm->Prop where
 | k1 {nm:Str} {a:Ex} (ha:Ex.all frmE a=true):FmS (.mk 1 nm [] [a] [] [])
 | k2 {nm:Str} {a b:Ex} (ha:Ex.all frmE a=true) (hb:Ex.all frmE b=true):FmS (.mk 2 nm [] [a,b] [] [])
 | k3 {nm:Str} {a:Ex} (ha:Ex.all frmE a=true):FmS (.mk 3 nm [] [a] [] [])
 | k4 {a:Ex} {th el:List Sm} (ha:Ex.all frmE a=true):FmS (.mk 4 [] [] [a] th el)
 | k5 {a:Ex} {th:List Sm} (ha:Ex.all frmE a=true):FmS (.mk 5 [] [] [a] th [])
 | k6 {nm hd:Str} {l:List Ex} (hl:∀ a∈l,Ex.all frmE a=true):FmS (.mk 6 nm hd l [] [])
 | k7 {hd:Str} {a:Ex} {l:List Ex} (ha:Ex.all frmE a=true) (hl:∀ a∈l,Ex.all frmE a=true):FmS (.mk 7 [] hd (a::l) [] [])
 | k8 {a b:Ex} {el:List Sm} (ha:Ex.all frmE a=true) (hb:Ex.all frmE b=true):FmS (.mk 8 [] [] [a,b] [] el)
 | k9 {nm:Str} {a:Ex} {el:List Sm} (ha:Ex.all frmE a=true):FmS (.mk 9 nm [] [a] [] el)
 | k10:FmS (.mk 10 [] [] [] [] [])
theorem frmS_form {s:Sm} (h:frmS s=true):FmS s:=by
 obtain ⟨kd,nm,hd,ex,th,el⟩:=s;simp only [frmS,Al_Bool_and_eq_true,Al_Bool_or_eq_true,Al_decide_eq_true_eq] at h;obtain ⟨⟨⟨⟨⟨⟨⟨hk,h1⟩,h2⟩,h3⟩,h4⟩,h5⟩,h6⟩,h7⟩:=h;have z:∀ {l:List Sm},l.length=0->l=[]:=Al_List_eq_nil_of_length_eq_zero;rcases okKd_cases hk with rfl | rfl | rfl | rfl | rfl | rfl | rfl | rfl | rfl | rfl
 ·obtain rfl:=h4.resolve_left (by decide);obtain rfl:=z (h5.resolve_left (by decide));obtain rfl:=z (h6.resolve_left (by decide));obtain ⟨a,rfl,ha⟩:=exs1 (Al_Nat_le_antisymm h2 h1) h7;exact .k1 ha
 ·obtain rfl:=h4.resolve_left (by decide);obtain rfl:=z (h5.resolve_left (by decide));obtain rfl:=z (h6.resolve_left (by decide));obtain ⟨a,b,rfl,ha,hb⟩:=exs2 (Al_Nat_le_antisymm h2 h1) h7;exact .k2 ha hb
 ·obtain rfl:=h4.resolve_left (by decide);obtain rfl:=z (h5.resolve_left (by decide));obtain rfl:=z (h6.resolve_left (by decide));obtain ⟨a,rfl,ha⟩:=exs1 (Al_Nat_le_antisymm h2 h1) h7;exact .k3 ha
 ·obtain rfl:=h3.resolve_left (by decide);obtain rfl:=h4.resolve_left (by decide);obtain ⟨a,rfl,ha⟩:=exs1 (Al_Nat_le_antisymm h2 h1) h7;exact .k4 ha
 ·obtain rfl:=h3.resolve_left (by decide);obtain rfl:=h4.resolve_left (by decide);obtain rfl:=z (h6.resolve_left (by decide));obtain ⟨a,rfl,ha⟩:=exs1 (Al_Nat_le_antisymm h2 h1) h7;exact .k5 ha
 ·obtain rfl:=z (h5.resolve_left (by decide));obtain rfl:=z (h6.resolve_left (by decide));exact .k6 λa ha=>alls_mem ha h7
 ·obtain rfl:=h3.resolve_left (by decide);obtain rfl:=z (h5.resolve_left (by decide));obtain rfl:=z (h6.resolve_left (by decide));cases ex with
  | nil=>exact absurd h1 (by decide)
  | cons a l=>exact .k7 (alls_mem (by simp) h7) λb hb=>alls_mem (by simp [hb]) h7
 ·obtain rfl:=h3.resolve_left (by decide);obtain rfl:=h4.resolve_left (by decide);obtain rfl:=z (h5.resolve_left (by decide));obtain ⟨a,b,rfl,ha,hb⟩:=exs2 (Al_Nat_le_antisymm h2 h1) h7;exact .k8 ha hb
 ·obtain rfl:=h4.resolve_left (by decide);obtain rfl:=z (h5.resolve_left (by decide));obtain ⟨a,rfl,ha⟩:=exs1 (Al_Nat_le_antisymm h2 h1) h7;exact .k9 ha
 ·obtain rfl:=h3.resolve_left (by decide);obtain rfl:=h4.resolve_left (by decide);obtain rfl:=z (h5.resolve_left (by decide));obtain rfl:=z (h6.resolve_left (by decide));obtain rfl:=args0 (Nat.le_zero.1 h2);exact .k10
theorem ktS_hd {s:Sm} (h:FmS s):∃ x k,ktS s=x::k/\isK [125] x=false/\isK [101,108,115,101] x=false:=by
 cases h <;> rw [ktS_mk] <;> exact ⟨_,_,Z,Z,Z⟩
def RdS (s:Sm):Prop:=Rdc (gSt gB) (ktS s) s (notW [101,108,115,101])
theorem stp_ {x:Kt} (h1:(List.range 5).all (λi=>(opK i x).isNone)=true) (h2:isK [91] x=false):stpO (some x):=⟨λi hi=>by simpa using Al_List_all_eq_true.1 h1 i hi,h2⟩
theorem Rdc.oth {C:Option Kt->Prop} {el:List Sm} (h:Rdc gB (ktSs el) el endB):Rdc (gOth gB) (if decide (el.length=0)=true then [(4,[59])] else (2,[101,108,115,101])::(4,[123])::(ktSs el++[(4,[125])])) el C:=by
 split
 ·rename_i e;obtain rfl:=Al_List_eq_nil_of_length_eq_zero (Al_of_decide_eq_true e);exact .altF Z (.nd Z .pure)
 ·exact .altT Z (.blk h)
theorem oth_stp (el:List Sm) (o:Option Kt):stpO (hdC (if decide (el.length=0)=true then [(4,[59])] else (2,[101,108,115,101])::(4,[123])::(ktSs el++[(4,[125])])) o):=by
 split <;> exact stp_ rfl rfl
theorem Rdc.st {s:Sm} (h:FmS s) (ht:∀ nm hd kd ex th el,s=.mk kd nm hd ex th el->Rdc gB (ktSs th) th endB/\Rdc gB (ktSs el) el endB):RdS s:=by
 unfold RdS;cases h with
 | k1 ha=>exact .altF rfl<|.altF rfl<|.altF rfl<|.altF rfl<|.altF rfl<|.altF rfl<|.altF rfl<|.altF rfl<|.nm<|.altF rfl<|.nd rfl<|.seq (.ex ha) (λ_ _=>stp_ rfl rfl)<|.nd rfl .pure
 | k2 ha hb=>exact .altF rfl<|.altF rfl<|.altF rfl<|.altF rfl<|.altF rfl<|.altF rfl<|.altF rfl<|.altF rfl<|.nm<|.altT rfl<|.seq (.ex ha) (λ_ _=>stp_ rfl rfl)<|.nd rfl<|.nd rfl<|.seq (.ex hb) (λ_ _=>stp_ rfl rfl)<|.nd rfl .pure
 | k3 ha=>exact .altF rfl<|.altF rfl<|.altF rfl<|.altF rfl<|.altF rfl<|.altF rfl<|.altF rfl<|.altT rfl<|.nm<|.nd rfl<|.seq (.ex ha) (λ_ _=>stp_ rfl rfl)<|.nd rfl<|.nd rfl .pure
 | @k4 a th el ha =>
  obtain ⟨h1,h2⟩:=ht _ _ _ _ _ _ rfl;refine .altT Z<|.seq (.ex ha) (λ_ _=>stp_ Z Z)<|.seq (C1:=anyO) (.blk h1) (λ_ _=>trivial) ?_
  split
  ·rename_i e;obtain rfl:=Al_List_eq_nil_of_length_eq_zero (Al_of_decide_eq_true e);exact Rdc.seq (k1:=[]) (k2:=[]) (C1:=notW [101,108,115,101]) (.altE (λo c=>c) .pure) (λo c=>c) .pure
  ·have:=Rdc.seq (C2:=notW [101,108,115,101]) (f:=λl=>gPure (Sm.mk 4 [] [] [a] th l)) (k2:=[]) (C1:=anyO) (.altT (w:=[101,108,115,101]) (q:=gPure []) (x:=(2,[101,108,115,101])) rfl (.blk h2)) (λo c=>trivial) .pure
   rwa [Al_List_append_nil] at this
 | @k5 a th ha =>
  obtain ⟨h1,_⟩:=ht _ _ _ _ _ _ rfl;have:=Rdc.seq (C2:=notW [101,108,115,101]) (f:=λt=>gPure (Sm.mk 5 [] [] [a] t [])) (k2:=[]) (C1:=anyO) (.blk h1) (λo c=>trivial) .pure;rw [Al_List_append_nil] at this;exact .altF Z<|.altT Z<|.seq (.ex ha) (λ_ _=>stp_ Z Z) this
 | k6 hl=>exact .altF rfl<|.altF rfl<|.altF rfl<|.altF rfl<|.altT rfl<|.nm<|.nd rfl<|.nm<|.seq (C1:=anyO) (.exs hl) (λ_ _=>trivial)<|.nd rfl .pure
 | k7 ha hl=>exact .altF rfl<|.altF rfl<|.altF rfl<|.altF rfl<|.altF rfl<|.altT rfl<|.seq (.ex ha) (λ_ _=>stp_ rfl rfl)<|.nd rfl<|.nm<|.seq (C1:=anyO) (.exs hl) (λ_ _=>trivial)<|.nd rfl .pure
 | @k8 a b el ha hb =>
  obtain ⟨_,h2⟩:=ht _ _ _ _ _ _ rfl;have:=Rdc.seq (C2:=notW [101,108,115,101]) (f:=λl=>gPure (Sm.mk 8 [] [] [a,b] [] l)) (k2:=[]) (C1:=anyO) (.oth h2) (λo c=>trivial) .pure;rw [Al_List_append_nil] at this;exact .altF Z<|.altF Z<|.altT Z<|.seq (.ex ha) (λ_ _=>stp_ Z Z)<|.nd Z<|.seq (.ex hb) (λo _=>oth_stp el o) this
 | @k9 nm a el ha =>
  obtain ⟨_,h2⟩:=ht _ _ _ _ _ _ rfl;have:=Rdc.seq (C2:=notW [101,108,115,101]) (f:=λl=>gPure (Sm.mk 9 nm [] [a] [] l)) (k2:=[]) (C1:=anyO) (.oth h2) (λo c=>trivial) .pure;rw [Al_List_append_nil] at this;exact .altF Z<|.altF Z<|.altF Z<|.altT Z<|.nm<|.nd Z<|.seq (.ex ha) (λo _=>oth_stp el o) this
 | k10=>exact .altF rfl<|.altF rfl<|.altF rfl<|.altF rfl<|.altF rfl<|.altF rfl<|.altT rfl<|.nd rfl .pure
theorem Rdc.b:∀ (l:List Sm),(∀ s∈l,FmS s/\RdS s)->Rdc gB (ktSs l) l endB
 | [],_=>λle r e c=>by
  obtain rfl:=Al_List_map_eq_nil_iff.1 (by rw [ktSs] at e;exact e);rw [gB_eq,Al_List_nil_append,isT_hdO];have c:hdO r=some (4,[125]):=c;rw [c]
  rfl
 | s::l,h=>λle r e c=>by
  rw [ktSs] at e;obtain ⟨l1,l2,rfl,e1,e2⟩:=Al_List_map_eq_append_iff.1 e;obtain ⟨hf,hs⟩:=h s (Al_List_mem_cons_self ..);obtain ⟨x,k,hx,hx1,_⟩:=ktS_hd hf;have ih:=Rdc.b l (λa ha=>h a (Al_List_mem_cons_of_mem _ ha)) l2 r e2 c
  have h2:=hs l1 (l2++r) e1 (by
   rw [hdO_app e2];cases l with
   | nil=>rw [show hdC (ktSs []) (hdO r)=hdO r from rfl,show hdO r=some (4,[125]) from c];rfl
   | cons b l =>
    obtain ⟨y,k2,hy,_,hy2⟩:=ktS_hd (h b (by simp)).1;rw [ktSs,hy];exact hy2)
  rw [gB_eq,Al_List_append_assoc,isT_hdO,hdO_app e1,hx];show (if isK [125] x=true then _ else _)=_;rw [hx1,Al_if_neg (by decide),h2];show (gB (l2++r)).bind _=_;rw [ih]
  rfl
theorem salls_mem {q:Sm->Bool}:∀ {l:List Sm} {a:Sm},a∈l->Sm.alls q l=true->Sm.all q a=true
 | b::l,a,h,k=>by
  rw [Sm.alls,Al_Bool_and_eq_true] at k;rcases Al_List_mem_cons.1 h with rfl | h
  ·exact k.1
  ·exact salls_mem h k.2
theorem rdS_all (s:Sm):Sm.all frmS s=true->FmS s/\RdS s:=by
 induction s using Sm.ind with
 | _ kd nm hd ex th el ih1 ih2 =>
  intro h;rw [sall_mk,Al_Bool_and_eq_true,Al_Bool_and_eq_true] at h;obtain ⟨⟨h1,h2⟩,h3⟩:=h;have hf:=frmS_form h1
  exact ⟨hf,.st hf λnm' hd' kd' ex' th' el' e=>by
   injection e with _ _ _ _ e1 e2
   subst e1 e2;exact ⟨.b _ λs hs=>ih1 s hs (salls_mem hs h2),.b _ λs hs=>ih2 s hs (salls_mem hs h3)⟩⟩
theorem Rdc.body {l:List Sm} (h:Sm.alls frmS l=true):Rdc gB (ktSs l) l endB:=.b l λs hs=>rdS_all s (salls_mem hs h)
/-! ### Fleets -/
def intK (n:Int64):List Kt:=if n.toInt<0 then [(4,[45]),(3,Lib.decDigits (-n.toInt).toNat)] else [(3,Lib.decDigits n.toInt.toNat)]
def hdK (h:Hd):List Kt:=(1,h.nm)::(lstK (h.ps.map λp=>[(1,p)])++(4,[123])::(ktSs h.body++[(4,[125])]))
section
variable {C:Option Kt->Prop}
theorem i64_nat {n:Int64} (h:0<=n.toInt):n.toInt.toNat<=9223372036854775807/\Int64.ofNat n.toInt.toNat=n:=by
 have hlt:=n.toInt_lt;refine ⟨by omega,Al_Int64_toInt_inj.1 ?_⟩;rw [Al_Int64_toInt_ofNat_of_lt (by omega)];omega
theorem Rdc.int {n:Int64} (h:n.toInt≠-9223372036854775808):Rdc gInt (intK n) n C:=by
 unfold intK
 split
 ·rename_i hn;have hlt:=n.le_toInt;have h1:(-n.toInt).toNat<=9223372036854775807:=by omega
  have e:-Int64.ofNat (-n.toInt).toNat=n:=by
   apply Al_Int64_toInt_inj.1;rw [Int64.toInt_neg,Al_Int64_toInt_ofNat_of_lt (by omega)];rw [Int.toNat_of_nonneg (by omega),Int.neg_neg];exact Int.bmod_eq_of_le (by omega) (by have:=n.toInt_lt;omega)
  have:=Rdc.seq (C1:=anyO) (C2:=C) (f:=λv=>gPure (-v)) (k2:=[]) (.nu h1) (λ_ _=>trivial) .pure;rw [e] at this;exact .altT Z this
 ·obtain ⟨h1,h2⟩:=i64_nat (n:=n) (by omega);have h3:=Rdc.nu (C:=C) h1;rw [h2] at h3;exact .altF (by simp [isK]) h3
theorem Rdc.hd {h:Hd} (hf:frmH h=true):Rdc gHd (hdK h) h C:=by
 have h1:Rdc (gList gNm) (lstK (h.ps.map λp=>[(1,p)])) h.ps anyO:=.list Shs.nm.le (Cp:=anyO) trivial trivial (λa _=>.nm1) λa _=>⟨_,_,Z,by simp [isK]⟩;have h2:=Rdc.seq (C1:=anyO) (C2:=C) (f:=λb=>gPure (Hd.mk h.nm h.ps b)) (k2:=[]) (.blk (.body hf)) (λ_ _=>trivial) .pure;rw [Al_List_append_nil] at h2;exact .nm<|.seq h1 (λ_ _=>trivial) h2
theorem Shs.hd:Shs gHd:=.bind .nm λ_=>.bind (Shs.list Shs.nm.le).le λ_=>.bind (Shs.blk Shr.b).le λ_=>.pure _
theorem Shs.int:Shs gInt:=.alt (.bind Shs.nu.le λ_=>.pure _) .nu
end
structure Tok (x:Kt) (r:Str):Prop where
 ne:x.2≠[]
 read:readK (x.2++r)=(x.1,x.2.length)
 skip:skipS false (x.2++r)=x.2++r
 k5:x.1≠5
 sh:x.2.length<=1000000
inductive Lx:Str->List Kt->Prop where
 | nil:Lx [] []
 | blk {c:UInt8} {s:Str} {k:List Kt} (h:blkB c=true) (l:Lx s k):Lx (c::s) k
 | tok {x:Kt} {s:Str} {k:List Kt} (h:Tok x s) (l:Lx s k):Lx (x.2++s) (x::k)
variable {s:Str}
theorem Lx.toks {k:List Kt} (h:Lx s k):∀ (f o:Nat),(skipS false s).length<f->(tokF f o (skipS false s)).map kt=k:=by
 induction h with
 | nil=>intro f o _;rw [skipS_nil,tokF_nil];rfl
 | blk h _ ih=>intro f o hf;rw [skipS_blk h] at hf|-;exact ih f o hf
 | @tok x s k h _ ih =>
  intro f o hf;rw [h.skip] at hf|-
  match f,hf with
  | f+1,hf =>
   have hne:x.2++s≠[]:=by intro e;exact h.ne (Al_List_append_eq_nil_iff.1 e).1
   rw [tokF_step hne,h.read];simp only [Al_List_take_left,List.drop_left,Al_List_map_cons];have hl:=skipS_len false s;have h1:1<=x.2.length:=Al_List_length_pos_iff.2 h.ne;rw [ih f _ (by rw [Al_List_length_append] at hf;omega)]
   rfl
theorem Lx.lex {k:List Kt} (h:Lx s k):(lexR s).map kt=k:=by
 unfold lexR;have:=skipS_len false s;exact h.toks _ _ (by omega)
def sepB (r:Str):Prop:=∀ c,r.head? = some c->insB c=false/\c≠46/\c≠61/\c≠62/\c≠47
def hdB (r:Str):Prop:=∀ c,r.head? = some c->c≠46/\c≠61/\c≠62/\c≠47
variable {r:Str}
theorem sepB.hd (h:sepB r):hdB r:=λc e=>(h c e).2
theorem sepB_nil:sepB []:=λc e=>by cases e
theorem sepB_cons {c:UInt8} (h:insB c=false/\c≠46/\c≠61/\c≠62/\c≠47):sepB (c::r):=λd e=>by cases e;exact h
theorem hdB_cons {c:UInt8} (h:c≠46/\c≠61/\c≠62/\c≠47):hdB (c::r):=λd e=>by cases e;exact h
theorem pre_app {q:UInt8->Bool}:∀ {w r:Str},w.all q=true->(∀ c,r.head? = some c->q c=false)->pre q (w++r)=w.length
 | [],[],_,_=>rfl
 | [],c::r,_,h=>by unfold pre;rw [Al_List_nil_append,Al_List_takeWhile_cons,h c rfl];rfl
 | a::w,r,hw,h=>by
  rw [Al_List_all_cons,Al_Bool_and_eq_true] at hw;have:=pre_app hw.2 h;unfold pre at this|-;rw [Al_List_cons_append,Al_List_takeWhile_cons,hw.1];simp [this]
theorem pre_all {q:UInt8->Bool}:∀ {w:Str},pre q w=w.length->w.all q=true
 | [],_=>rfl
 | a::w,h=>by
  unfold pre at h;rw [Al_List_takeWhile_cons] at h;cases ha:q a with
  | false=>rw [ha] at h;simp at h
  | true =>
   rw [ha] at h;have:=pre_all (q:=q) (w:=w) (by unfold pre;simpa using h);rw [Al_List_all_cons,ha,this];rfl
theorem byte_key {Q:UInt8->Prop} (h:∀ i∈List.range 256,Q (UInt8.ofNat i)) (c:UInt8):Q c:=by
 have:=h c.toNat (Al_List_mem_range.2 c.toNat_lt)
 rwa [Al_UInt8_ofNat_toNat] at this
theorem let_blk (c:UInt8) (h:letB c=true):blkB c=false/\c≠47/\c≠46/\c≠61/\c≠62/\insB c=true/\digB c=false:=by
 revert h
 exact byte_key (Q:=λc=>letB c=true->blkB c=false/\c≠47/\c≠46/\c≠61/\c≠62/\insB c=true/\digB c=false) (by decide +kernel) c
theorem dig_blk (c:UInt8) (h:digB c=true):blkB c=false/\c≠47/\c≠46/\c≠61/\c≠62/\letB c=false:=by
 revert h
 exact byte_key (Q:=λc=>digB c=true->blkB c=false/\c≠47/\c≠46/\c≠61/\c≠62/\letB c=false) (by decide +kernel) c
theorem ins_dig (c:UInt8) (h:insB c=false):digB c=false:=by
 revert h
 exact byte_key (Q:=λc=>insB c=false->digB c=false) (by decide +kernel) c
theorem words_len:∀ w∈words,w.length<=12:=by decide +kernel
theorem tok_word {k:UInt8} (h0:w≠[]) (hl:letB (w.headD 0)=true) (hw:w.all insB=true) (hk:(if words.contains w then (2:UInt8) else if w.length<=12 then 1 else 5)=k) (h5:k≠5) (hr:sepB r):Tok (k,w) r:=by
 match w,h0 with
 | c::t,h0 =>
  have hlb:=let_blk c hl;have hp:pre insB ((c::t)++r)=(c::t).length:=pre_app hw λd hd=>(hr d hd).1;refine ⟨h0,?_,?_,h5,?_⟩
  ·show readK ((c::t)++r)=(k,(c::t).length);unfold readK;simp only;rw [show ((c::t)++r).headD 0=c from rfl,show letB c=true from hl,Al_if_pos rfl,hp,Al_List_take_left]
   split at hk
   ·rename_i e;rw [Al_if_pos e,<-hk]
   ·rename_i e;rw [Al_if_neg e]
    split at hk
    ·rename_i e2;rw [Al_if_pos e2,<-hk]
    ·exact absurd hk.symm h5
  ·exact skipS_stop hlb.1 (λe=>hlb.2.1 e.1)
  ·show (c::t).length<=1000000
   split at hk
   ·rename_i e;have:=words_len _ (Al_List_contains_iff_mem.1 e);omega
   ·split at hk
    ·omega
    ·exact absurd hk.symm h5
theorem kw_facts:∀ w∈words,w≠[]/\letB (w.headD 0)=true/\w.all insB=true:=by decide +kernel
theorem tok_kw (hw:w∈words) (hr:sepB r):Tok (2,w) r:=by
 obtain ⟨h1,h2,h3⟩:=kw_facts w hw;exact tok_word h1 h2 h3 (by rw [Al_if_pos (Al_List_contains_iff_mem.2 hw)]) (by decide) hr
theorem nameB_facts (h:nameB w=true):w≠[]/\letB (w.headD 0)=true/\w.all insB=true/\words.contains w=false/\w.length<=12:=by
 have hlen:=name_len h;simp only [nameB,Al_Bool_and_eq_true,Al_decide_eq_true_eq,Al_beq_iff_eq] at h;obtain ⟨⟨h0,h1⟩,h2⟩:=h
 match w,h0 with
 | c::t,h0 =>
  have hl:=readK_one h1
  have h3:words.contains ((c::t).take (pre insB (c::t)))=false/\pre insB (c::t)=(c::t).length:=by
   unfold readK at h1 h2;simp only [Al_List_headD_cons,hl,Al_if_true] at h1 h2
   split at h1
   ·simp at h1
   ·rename_i e;rw [Al_if_neg e] at h2
    split at h1
    ·rename_i e2;rw [Al_if_pos e2] at h2;exact ⟨by simpa using e,h2⟩
    ·simp at h1
  obtain ⟨h4,h5⟩:=h3;rw [h5,Al_List_take_length] at h4;exact ⟨h0,hl,pre_all h5,h4,hlen⟩
theorem tok_name (hw:nameB w=true) (hr:sepB r):Tok (1,w) r:=by
 obtain ⟨h1,h2,h3,h4,h5⟩:=nameB_facts hw;exact tok_word h1 h2 h3 (by rw [h4,Al_if_neg (by decide),Al_if_pos h5]) (by decide) hr
theorem name_hd (hw:nameB w=true):hdB (w++r):=by
 obtain ⟨h1,h2,_⟩:=nameB_facts hw
 match w,h1 with
 | c::t,_=>have:=let_blk c h2;exact hdB_cons ⟨this.2.2.1,this.2.2.2.1,this.2.2.2.2.1,this.2.1⟩
theorem kw_hd (hw:w∈words):hdB (w++r):=by
 obtain ⟨h1,h2,_⟩:=kw_facts w hw
 match w,h1 with
 | c::t,_=>have:=let_blk c h2;exact hdB_cons ⟨this.2.2.1,this.2.2.2.1,this.2.2.2.2.1,this.2.1⟩
theorem digits_hd:∀ (u:Nat),∃ c t,Lib.decDigits u=c::t/\(t=[]\/c≠48)/\(u≠0->c≠48):=by
 intro u;induction u using Nat.strongRecOn with
 | _ u ih =>
  by_cases h:u<10
  ·rw [Lib.decDigits_one h];refine ⟨_,[],Z,.inl rfl,λhu e=>?_⟩;have:=congrArg UInt8.toNat e;rw [Plain.digit_nat u h] at this;have h48:(48:UInt8).toNat=48:=rfl;omega
  ·rw [Plain.digits_more u h];obtain ⟨c,t,e,_,h2⟩:=ih (u / 10) (by omega);rw [e];exact ⟨c,_,Z,.inr (h2 (by omega)),λ_=>h2 (by omega)⟩
theorem dec_len {u:Nat} (h:u<=9223372036854775808):(Lib.decDigits u).length<=21:=by
 have h1:=Lib.itoa_length_le (-(u:Int)) (by omega) (by omega)
 by_cases h0:u=0
 ·subst h0;decide +kernel
 ·rw [Lib.itoa,Al_if_pos (by omega),show (-(u:Int)).natAbs=u by omega,Al_List_length_cons] at h1;omega
theorem dec64 {n:Int64} :n.toInt.toNat<=9223372036854775808:=by have:=n.toInt_lt;omega
theorem tok_num {u:Nat} (hu:u<=9223372036854775808) (hr:sepB r):Tok (3,Lib.decDigits u) r:=by
 have hdl:=dec_len hu;obtain ⟨c,t,e,h2,_⟩:=digits_hd u
 have hall:(Lib.decDigits u).all digB=true:=Al_List_all_eq_true.2 λd hd=>by
  have:=Plain.digits_are u d hd;simp only [digB,Al_Bool_and_eq_true,Al_decide_eq_true_eq];exact this
 have hp:pre digB (Lib.decDigits u++r)=(Lib.decDigits u).length:=pre_app hall λd hd=>ins_dig d (hr d hd).1;rw [e] at hall hp hdl|-;rw [Al_List_all_cons,Al_Bool_and_eq_true] at hall;have hb:=dig_blk c hall.1;refine ⟨by simp,?_,skipS_stop hb.1 (λe=>hb.2.1 e.1),(show (3:UInt8)≠5 by decide),(by show (c::t).length<=1000000;omega)⟩;show readK ((c::t)++r)=(3,(c::t).length);unfold readK;simp only;rw [show ((c::t)++r).headD 0=c from rfl,hb.2.2.2.2.2,Al_if_neg (by decide),hall.1,Al_if_pos rfl,hp];refine Al_if_pos ?_;rcases h2 with rfl | h2
 ·exact .inl Z
 ·exact .inr h2
theorem num_hd {u:Nat} :hdB (Lib.decDigits u++r):=by
 obtain ⟨c,t,e,_⟩:=digits_hd u;have:=Plain.digits_are u c (by rw [e];simp);have hd:digB c=true:=by simp only [digB,Al_Bool_and_eq_true,Al_decide_eq_true_eq];exact this
 have hb:=dig_blk c hd;rw [e];exact hdB_cons ⟨hb.2.2.1,hb.2.2.2.1,hb.2.2.2.2.1,hb.2.1⟩
def sym1:Str:=[123,125,40,41,91,93,44,59,58,46,61,60,62,43,45,42,47,37]
theorem tok_sym {c:UInt8} (hc:c∈sym1) (hr:hdB r):Tok (4,[c]) r:=by
 have hx:∀ d,r.head? = some d->d≠46/\d≠61/\d≠62/\d≠47:=hr;refine ⟨by simp,?_,?_,(show (4:UInt8)≠5 by decide),(by show (1:Nat)<=_;omega)⟩
 ·show readK (c::r)=(4,1);have hl:letB c=false/\digB c=false:=by revert c;decide
  have hf:symbols.find? (λx=>x.isPrefixOf (c::r))=some [c]:=by
   cases r with
   | nil=>revert c;decide
   | cons d t =>
    obtain ⟨e1,e2,e3,e4⟩:=hx d rfl;have b1:((46:UInt8) == d)=false:=Al_beq_false_of_ne (Al_Ne_symm e1);have b2:((61:UInt8) == d)=false:=Al_beq_false_of_ne (Al_Ne_symm e2);have b3:((62:UInt8) == d)=false:=Al_beq_false_of_ne (Al_Ne_symm e3);simp only [sym1,Al_List_mem_cons,List.not_mem_nil,or_false] at hc
    rcases hc with rfl | rfl | rfl | rfl | rfl | rfl | rfl | rfl | rfl | rfl | rfl | rfl | rfl | rfl | rfl | rfl | rfl | rfl <;>
     simp [symbols,List.find?,List.isPrefixOf,b1,b2,b3]
  unfold readK;simp only [Al_List_headD_cons,hl.1,hl.2,hf,Al_Bool_false_eq_true,Al_if_false,Al_List_length_singleton]
 ·refine skipS_stop (by revert c;decide) ?_;rintro ⟨_,h⟩;exact (hx 47 h).2.2.2 rfl
def sym2:List Str:=[[61,61],[33,61],[60,61],[62,61],[45,62]]
theorem tok_two (hw:w∈sym2):Tok (4,w) r:=by
 simp only [sym2,Al_List_mem_cons,List.not_mem_nil,or_false] at hw;rcases hw with rfl | rfl | rfl | rfl | rfl <;> refine ⟨by simp,?_,?_,(show (4:UInt8)≠5 by decide),(by show (2:Nat)<=_;omega)⟩ <;> simp [readK,letB,digB,symbols,List.find?,List.isPrefixOf,skipS,blkB]
theorem sp_sep:sepB (32::r):=sepB_cons (by decide)
theorem cl_sep:sepB (41::r):=sepB_cons (by decide)
theorem br_sep:sepB (91::r):=sepB_cons (by decide)
theorem bk_sep:sepB (93::r):=sepB_cons (by decide)
theorem Lx.sp {k:List Kt} (h:Lx r k):Lx (32::r) k:=.blk (by decide) h
theorem Lx.sy {c:UInt8} {k:List Kt} (hc:c∈sym1) (hr:hdB r) (h:Lx r k):Lx (c::r) ((4,[c])::k):=.tok (x:=(4,[c])) (tok_sym hc hr) h
theorem Lx.kw {k:List Kt} (hw:w∈words) (hr:sepB r) (h:Lx r k):Lx (w++r) ((2,w)::k):=.tok (x:=(2,w)) (tok_kw hw hr) h
theorem Lx.nm {k:List Kt} (hw:nameB w=true) (hr:sepB r) (h:Lx r k):Lx (w++r) ((1,w)::k):=.tok (x:=(1,w)) (tok_name hw hr) h
theorem Lx.nu {u:Nat} {k:List Kt} (hu:u<=9223372036854775808) (hr:sepB r) (h:Lx r k):Lx (Lib.decDigits u++r) ((3,Lib.decDigits u)::k):=.tok (x:=(3,Lib.decDigits u)) (tok_num hu hr) h
def LxE (e:Ex):Prop:=∀ r ks,sepB r->Lx r ks->Lx (e.text++r) (ktE e++ks)/\hdB (e.text++r)
variable {ks:List Kt}
theorem LxE.opnd {e:Ex} (h:LxE e) (n:Nat) (hr:sepB r) (hk:Lx r ks):Lx (opT n (e.lv,e.text)++r) (parK n e.lv (ktE e)++ks)/\hdB (opT n (e.lv,e.text)++r):=by
 unfold opT parK;simp only
 split
 ·simp only [Al_List_cons_append,Al_List_nil_append,Al_List_append_assoc];obtain ⟨h1,h2⟩:=h (41::r) ((4,[41])::ks) cl_sep (.sy (by decide) hr.hd hk);exact ⟨.sy (by decide) h2 h1,hdB_cons (by decide)⟩
 ·exact h r ks hr hk
theorem bin_tx:∀ op∈([11,12,13,14,15,16,17,18,19,20,21,22,23]:List UInt8),(shapeOf op).tx=32::((symK op).2++[32])/\(((symK op).1=2/\(symK op).2∈words)\/((symK op).1=4/\((symK op).2∈sym2\/∃ c∈sym1,(symK op).2=[c]))):=by decide +kernel
theorem Lx.bin {op:UInt8} (h:op∈([11,12,13,14,15,16,17,18,19,20,21,22,23]:List UInt8)) {k:List Kt} (hk:Lx r k):Lx ((shapeOf op).tx++r) (symK op::k):=by
 obtain ⟨h1,h2⟩:=bin_tx op h;rw [h1];simp only [Al_List_cons_append,Al_List_append_assoc,Al_List_nil_append];refine .sp ?_;have hs:=hk.sp;refine .tok (x:=symK op) ?_ hs;generalize symK op=x at h2;obtain ⟨k,w⟩:=x;rcases h2 with ⟨e,hw⟩ | ⟨e,hw | ⟨c,hc,hw⟩⟩
 ·obtain rfl:k=2:=e;exact tok_kw hw sp_sep
 ·obtain rfl:k=4:=e;exact tok_two hw
 ·obtain rfl:k=4:=e;obtain rfl:w=[c]:=hw;exact tok_sym hc sp_sep.hd
theorem lx_all (e:Ex):Ex.all frmE e=true->Ex.all namE e=true->LxE e:=by
 induction e using Ex.ind with
 | _ op nm n args ih =>
  intro h hq;rw [all_mk,Al_Bool_and_eq_true] at h hq;obtain ⟨hf,hr⟩:=h;obtain ⟨hg,hq⟩:=hq;have ha:∀ a∈args,LxE a:=λa m=>ih a m (alls_mem m hr) (alls_mem m hq);simp only [frmE,Al_Bool_and_eq_true,Al_Bool_or_eq_true,Al_decide_eq_true_eq] at hf;simp only [namE,Al_Bool_or_eq_true,Al_Bool_not_eq_true'] at hg;obtain ⟨⟨⟨hop,hl⟩,hnm⟩,hn⟩:=hf;have hm:=ok_cases hop;intro r ks hs hk
  by_cases h1:op=1
  ·subst h1;rw [Al_if_pos rfl,Al_decide_eq_true_eq] at hn
   have e1:Ex.text (.mk 1 nm n args)=Lib.decDigits n.toInt.toNat:=by
    rw [Ex.text,txt,Al_if_pos rfl,Lib.itoa,Al_if_neg (by omega)]
   have e2:ktE (.mk 1 nm n args)=[(3,Lib.decDigits n.toInt.toNat)]:=by
    rw [ktE,ktx,Al_if_pos rfl,Lib.itoa,Al_if_neg (by omega)]
   rw [e1,e2];exact ⟨.nu dec64 hs hk,num_hd⟩
  rw [Al_if_neg h1,Al_decide_eq_true_eq] at hn;obtain rfl:=i64_zero hn
  by_cases hb:op∈([11,12,13,14,15,16,17,18,19,20,21,22,23]:List UInt8)
  ·obtain ⟨b1,_,_,_,_,_,_,g1,g2,g3,g4,g5,g6,g7⟩:=bin_facts op hb;obtain ⟨a,b,rfl⟩:=args2 (l:=args) (by omega)
   have e1:Ex.text (.mk op nm 0 [a,b])=opT (lftT (shapeOf op).lv) (a.lv,a.text)++(shapeOf op).tx++opT ((shapeOf op).lv+1) (b.lv,b.text):=by
    rw [Ex.text,txt,Al_if_neg g1,Al_if_neg (by simp [g2,g3]),Al_if_neg (by simp [g4,g5]),Al_if_neg (by simp [g6,g7]),Al_if_neg (by omega)]
    rfl
   rw [e1,ktE_bin hb];simp only [Al_List_append_assoc,Al_List_cons_append];obtain ⟨k1,_⟩:=(ha b (by simp)).opnd ((shapeOf op).lv+1) hs hk;have k2:=Lx.bin hb k1;refine (ha a (by simp)).opnd (lftT (shapeOf op).lv) ?_ k2;rw [(bin_tx op hb).1];exact sp_sep
  have hs9:op=2\/op=3\/op=4\/op=5\/op=6\/op=7\/op=8\/op=9\/op=10:=((ok_split hop).resolve_left h1).resolve_left hb
  have key:∀ a,LxE a->Lx (91::(a.text++93::r)) ((4,[91])::(ktE a++(4,[93])::ks)):=by
   intro a hA;obtain ⟨k1,k2⟩:=hA (93::r) ((4,[93])::ks) bk_sep (.sy (by decide) hs.hd hk);exact .sy (by decide) k2 k1
  have hn5:(shapeOf op).nm=true->nameB nm=true:=λe=>hg.resolve_left (by rw [e];decide);rcases hs9 with rfl | rfl | rfl | rfl | rfl | rfl | rfl | rfl | rfl
  ·exact ⟨Lx.kw (w:=[116,114,117,101]) (by decide) hs hk,kw_hd (w:=[116,114,117,101]) (by decide)⟩
  ·exact ⟨Lx.kw (w:=[102,97,108,115,101]) (by decide) hs hk,kw_hd (w:=[102,97,108,115,101]) (by decide)⟩
  ·exact ⟨Lx.kw (w:=[110,111,119]) (by decide) hs hk,kw_hd (w:=[110,111,119]) (by decide)⟩
  ·exact ⟨Lx.nm (hn5 rfl) hs hk,name_hd (hn5 rfl)⟩
  ·obtain ⟨a,rfl⟩:=args1 hl;have e1:Ex.text (.mk 6 nm 0 [a])++r=nm++91::(a.text++93::r):=by rw [text_mk];simp [txt,shapeOf,okOp,shapes]
   have e2:ktE (.mk 6 nm 0 [a])++ks=(1,nm)::(4,[91])::(ktE a++(4,[93])::ks):=by
    rw [show ktE (.mk 6 nm 0 [a])=(1,nm)::(4,[91])::(ktE a++[(4,[93])]) from rfl];simp
   rw [e1,e2];exact ⟨.nm (hn5 rfl) br_sep (key a (ha a (by simp))),name_hd (hn5 rfl)⟩
  ·obtain ⟨a,rfl⟩:=args1 hl;have e1:Ex.text (.mk 7 nm 0 [a])++r=[104,97,115]++32::(nm++91::(a.text++93::r)):=by rw [text_mk];simp [txt,shapeOf,okOp,shapes]
   have e2:ktE (.mk 7 nm 0 [a])++ks=(2,[104,97,115])::(1,nm)::(4,[91])::(ktE a++(4,[93])::ks):=by
    rw [show ktE (.mk 7 nm 0 [a])=(2,[104,97,115])::(1,nm)::(4,[91])::(ktE a++[(4,[93])]) from rfl];simp
   rw [e1,e2];exact ⟨.kw (by decide) sp_sep (.sp (.nm (hn5 rfl) br_sep (key a (ha a (by simp))))),kw_hd (by decide)⟩
  ·obtain rfl:=args0 hl;have e1:Ex.text (.mk 8 nm 0 [])++r=[115,105,122,101]++32::(nm++r):=by rw [text_mk];simp [txt,shapeOf,okOp,shapes]
   rw [e1];exact ⟨.kw (by decide) sp_sep (.sp (.nm (hn5 rfl) hs hk)),kw_hd (by decide)⟩
  ·obtain ⟨a,rfl⟩:=args1 hl;obtain ⟨k1,k2⟩:=(ha a (by simp)).opnd 6 hs hk;have e1:Ex.text (.mk 9 nm 0 [a])++r=45::(opT 6 (a.lv,a.text)++r):=by rw [text_mk];rfl
   rw [e1];exact ⟨.sy (by decide) k2 k1,hdB_cons (by decide)⟩
  ·obtain ⟨a,rfl⟩:=args1 hl;obtain ⟨k1,k2⟩:=(ha a (by simp)).opnd 6 hs hk;have e1:Ex.text (.mk 10 nm 0 [a])++r=[110,111,116]++32::(opT 6 (a.lv,a.text)++r):=by rw [text_mk];rfl
   rw [e1];exact ⟨.kw (by decide) sp_sep (.sp k1),kw_hd (by decide)⟩
end Go.Proofs.YtidclioghdbphaaGreatDoor
