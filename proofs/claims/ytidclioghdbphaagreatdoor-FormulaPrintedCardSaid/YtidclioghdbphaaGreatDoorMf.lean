/- Texts of the proof, one behind the other. -/
import Derived.Test.YtidclioghdbphaaGreatDoorMe
set_option linter.all false
set_option maxRecDepth 100000
namespace Go.Proofs.YtidclioghdbphaaGreatDoor
open Go.RowKit Go.Par Go.Sx Tryz
theorem fs_small (op:UInt8):(fsOf op).ar<=2/\(fsOf op).ex<=1:=op_cases (q:=λop=>(fsOf op).ar<=2/\(fsOf op).ex<=1) (by decide +kernel) op
variable {n k:Nat}
theorem nn0:decide (¬ ((n:Nat):Int)=((k:Nat):Int))=!decide (n=k):=by rw [<-n0,decide_not]
theorem le4:decide (((n:Nat):Int)<=4)=decide (n<=4):=by rw [Al_Bool_eq_iff_iff,Al_decide_eq_true_eq,Al_decide_eq_true_eq];omega
variable {a:Int64}
theorem form_mk {op:UInt8} {nm fd:Str} {b:Int64} {ex:List Ex} {args:List Fm} :formB (.mk op nm fd a b ex args)=(decide (¬ (fsOf op).lv=0) && ((fsOf op).nm || decide (nm=[])) && ((fsOf op).fd || decide (fd=[])) && decide (args.length=(fsOf op).ar) && bndB (.mk op nm fd a b ex args) && exsB (.mk op nm fd a b ex args)):=rfl
theorem form_bad {op:UInt8} {nm fd:Str} {b:Int64} {ex:List Ex} {args:List Fm} (h:(decide ((fsOf op).lv=0) || (!(fsOf op).nm && !decide (nm=[])) || (!(fsOf op).fd && !decide (fd=[])) || !decide (args.length=(fsOf op).ar))=true):formB (.mk op nm fd a b ex args)=false:=by
 rw [form_mk,decide_not];generalize decide ((fsOf op).lv=0)=x1 at *;generalize (fsOf op).nm=x2 at *;generalize decide (nm=[])=x3 at *;generalize (fsOf op).fd=x4 at *;generalize decide (fd=[])=x5 at *;generalize decide (args.length=(fsOf op).ar)=x6 at *;generalize bndB (.mk op nm fd a b ex args)=x7;generalize exsB (.mk op nm fd a b ex args)=x8
 revert h
 cases x1 <;> cases x2 <;> cases x3 <;> cases x4 <;> cases x5 <;> cases x6 <;> simp
theorem form_bnd {op:UInt8} {nm fd:Str} {b:Int64} {ex:List Ex} {args:List Fm} (h:bndB (.mk op nm fd a b ex args)=false):formB (.mk op nm fd a b ex args)=false:=by rw [form_mk,h,Bool.and_false,Al_Bool_false_and]
theorem form_ok {op:UInt8} {nm fd:Str} {b:Int64} {ex:List Ex} {args:List Fm} (h:(decide ((fsOf op).lv=0) || (!(fsOf op).nm && !decide (nm=[])) || (!(fsOf op).fd && !decide (fd=[])) || !decide (args.length=(fsOf op).ar))=false) (hb:bndB (.mk op nm fd a b ex args)=true):formB (.mk op nm fd a b ex args)=exsB (.mk op nm fd a b ex args):=by
 rw [form_mk,decide_not,hb];generalize decide ((fsOf op).lv=0)=x1 at *;generalize (fsOf op).nm=x2 at *;generalize decide (nm=[])=x3 at *;generalize (fsOf op).fd=x4 at *;generalize decide (fd=[])=x5 at *;generalize decide (args.length=(fsOf op).ar)=x6 at *
 revert h
 cases x1 <;> cases x2 <;> cases x3 <;> cases x4 <;> cases x5 <;> cases x6 <;> simp
theorem dec0 {n:Int64} :(n=0)=(n.toInt=0):=by have:=@i0 n;rw [Al_Bool_eq_iff_iff,Al_decide_eq_true_eq,Al_decide_eq_true_eq] at this;exact propext this.symm
theorem bnd_w {op:UInt8} {nm fd:Str} {b:Int64} {ex:List Ex} {args:List Fm} (h:(fsOf op).wn=true):bndB (.mk op nm fd a b ex args)=decide ((a.toInt=0/\b.toInt=-1)\/(0<=a.toInt/\a.toInt<=b.toInt/\b.toInt<=200)):=by
 unfold bndB;rw [Al_if_pos (show (fsOf (Fm.mk op nm fd a b ex args).op).wn=true from h),Al_Bool_eq_iff_iff];show ((decide (a=0) && decide (b.toInt=-1)) || (decide (0<=a.toInt) && decide (a.toInt<=b.toInt) && decide (b.toInt<=200)))=true↔_;rw [Al_Bool_or_eq_true,Al_Bool_and_eq_true,Al_Bool_and_eq_true,Al_Bool_and_eq_true,Al_decide_eq_true_eq,Al_decide_eq_true_eq,Al_decide_eq_true_eq,Al_decide_eq_true_eq,Al_decide_eq_true_eq,Al_decide_eq_true_eq,dec0];omega
theorem bnd_a {op:UInt8} {nm fd:Str} {b:Int64} {ex:List Ex} {args:List Fm} (h:(fsOf op).wn=false) (h2:(fsOf op).am=true):bndB (.mk op nm fd a b ex args)=decide (-1000000<=a.toInt/\a.toInt<=b.toInt/\b.toInt<=1000000/\b.toInt - a.toInt<32):=by
 unfold bndB;rw [Al_if_neg (show ¬ (fsOf (Fm.mk op nm fd a b ex args).op).wn=true by show ¬ (fsOf op).wn=true;rw [h];decide),Al_if_pos (show (fsOf (Fm.mk op nm fd a b ex args).op).am=true from h2),Al_Bool_eq_iff_iff];show (decide (-1000000<=a.toInt) && decide (a.toInt<=b.toInt) && decide (b.toInt<=1000000) && decide (b.toInt - a.toInt<32))=true↔_;rw [Al_Bool_and_eq_true,Al_Bool_and_eq_true,Al_Bool_and_eq_true,Al_decide_eq_true_eq,Al_decide_eq_true_eq,Al_decide_eq_true_eq,Al_decide_eq_true_eq,Al_decide_eq_true_eq];omega
theorem bnd_n {op:UInt8} {nm fd:Str} {b:Int64} {ex:List Ex} {args:List Fm} (h:(fsOf op).wn=false) (h2:(fsOf op).am=false):bndB (.mk op nm fd a b ex args)=decide (a.toInt=0/\b.toInt=0):=by
 unfold bndB;rw [Al_if_neg (show ¬ (fsOf (Fm.mk op nm fd a b ex args).op).wn=true by show ¬ (fsOf op).wn=true;rw [h];decide),Al_if_neg (show ¬ (fsOf (Fm.mk op nm fd a b ex args).op).am=true by show ¬ (fsOf op).am=true;rw [h2];decide),Al_Bool_eq_iff_iff];show (decide (a=0) && decide (b=0))=true↔_;rw [Al_Bool_and_eq_true,Al_decide_eq_true_eq,Al_decide_eq_true_eq,Al_decide_eq_true_eq,dec0,dec0]
theorem all_frm {l:List Ex} :(!l.any frm1B)=l.all λe=>anyB e || termB e:=by
 induction l with
 | nil=>rfl
 | cons e r ih=>rw [List.any_cons,Al_List_all_cons,<-ih,frm1];cases anyB e <;> cases termB e <;> simp
theorem exs7 {op:UInt8} {nm fd:Str} {b:Int64} {ex:List Ex} {args:List Fm} (h:op=7):exsB (.mk op nm fd a b ex args)=(decide (ex.length<=4) && ex.all λe=>anyB e || termB e):=by unfold exsB;rw [Al_if_pos (show (Fm.mk op nm fd a b ex args).op=7 from h)];rfl
theorem exsQ {op:UInt8} {nm fd:Str} {b:Int64} {ex:List Ex} {args:List Fm} (h:¬ op=7):exsB (.mk op nm fd a b ex args)=(decide (ex.length=(fsOf op).ex) && (if op=3 then cmpB (ex.headD (.mk 0 [] 0 [])) else if op=5 then termB (ex.headD (.mk 0 [] 0 [])) else if op=18 then decide ((ex.headD (.mk 0 [] 0 [])).op=1) && termB (ex.headD (.mk 0 [] 0 [])) && decide ((ex.headD (.mk 0 [] 0 [])).n.toInt<=32) else true)):=by unfold exsB;rw [Al_if_neg (show ¬ (Fm.mk op nm fd a b ex args).op=7 from h)];rfl
theorem exsL {op:UInt8} {nm fd:Str} {b:Int64} {ex:List Ex} {args:List Fm} (h:¬ op=7) (h2:¬ ex.length=(fsOf op).ex):exsB (.mk op nm fd a b ex args)=false:=by rw [exsQ h,Al_decide_eq_false h2];rfl
theorem exsN {op:UInt8} {nm fd:Str} {b:Int64} {ex:List Ex} {args:List Fm} (h:¬ op=7) (h2:ex.length=(fsOf op).ex) (h3:¬ op=3) (h5:¬ op=5) (h18:¬ op=18):exsB (.mk op nm fd a b ex args)=true:=by rw [exsQ h,Al_decide_eq_true h2,Al_if_neg h3,Al_if_neg h5,Al_if_neg h18];rfl
theorem exs3 {op:UInt8} {nm fd:Str} {b:Int64} {args:List Fm} {e0:Ex} (h:op=3):exsB (.mk op nm fd a b [e0] args)=cmpB e0:=by subst h;rw [exsQ (by decide),Al_if_pos rfl];rfl
theorem exs5 {op:UInt8} {nm fd:Str} {b:Int64} {args:List Fm} {e0:Ex} (h:op=5):exsB (.mk op nm fd a b [e0] args)=termB e0:=by subst h;rw [exsQ (by decide),Al_if_neg (by decide),Al_if_pos rfl];rfl
theorem exs18 {op:UInt8} {nm fd:Str} {b:Int64} {args:List Fm} {op0:UInt8} {nm0:Str} {m0:Int64} {args0:List Ex} (h:op=18):exsB (.mk op nm fd a b [.mk op0 nm0 m0 args0] args)=(decide (((op0.toNat:Nat):Int)=1) && termB (.mk op0 nm0 m0 args0) && decide (m0.toInt<=32)):=by subst h;rw [exsQ (by decide),Al_if_neg (by decide),Al_if_neg (by decide),Al_if_pos rfl,k81];rfl
set_option maxHeartbeats 2000000 in
theorem formed_any (H:Hp) (Gt:Gf H) (f:Fm):FFn H 38 formB f:=by
 intro cs w h hA;obtain ⟨op,nm,fd,a,b,ex,args⟩:=f;obtain ⟨p1,c1,p2,c2,rfl,hs1,hs2,hnm,hfd⟩:=fm_open h;have hcap:=hs1.cap;have hcap2:=hs2.cap;refine Sx.enter (H:=H) func38 rfl ntmps38 rfl hA ?_;refine .sr<|.bx Z Z Z λb1=>.a Z Z<|.ns<|.fA Z Fx.field35_0<|.lD Z Fx.agg31 Hm Z<|.yw (.call (v:=.agg (fsC (fsOf op)).toArray) Fx.call74 Z (λW s=>fshape_any H Gt op W s.agr))<|.al Fx.zero157 Z λb3=>.sW .head Z Z Fx.size157 (by simp [fsC,Value.oneCell',strV]) Z<|.nt<|.sq<|.cu (X:=Bool) [(1,_),(3,_)] ⟨Z,Z,Jt⟩ (λz=>[(38,.bool z)]) (λz=>H) (λz=>[.box b3 (fsC (fsOf op)) 157,.box b1 [.int .u8 op.toNat,strV nm,strV fd,.int .i64 a.toInt,.int .i64 b.toInt,.slice p1 ex.length c1,.slice p2 args.length c2] 35]) (λz=>z=(decide ((fsOf op).lv=0) || (!(fsOf op).nm && !decide (nm=[])) || (!(fsOf op).fd && !decide (fd=[])) || !decide (args.length=(fsOf op).ar))) ?_ λz hC=>?_
 ·
  refine .rg<|.fA Z Fx.field157_0<|.lD Z Fx.agg5 Hm Z<|.yw (.cast (.eql Z Z) (congrArg Value.bool er0))<|.mv Z<|.b2 (λh10=>?_) (λh10=>?_)
  ·exact .gG<|.gG<|.gG<|.gG<|.gV<|.gV<|.gV<|.gG<|.yw (.pickT Z Z)<|.mv Z<|.gG<|.gG<|.gG<|.gG<|.gV<|.gV<|.gV<|.gG<|.yw (.pickT Z Z)<|.mv Z<|.gG<|.gG<|.gG<|.gG<|.gG<|.gG<|.gG<|.yw (.pickT Z Z)<|.nt<|.me _ ⟨Z,Jt⟩ ⟨Z,Z,Jt⟩ (λ_ s=>s) (by first | (simp only [h10,h14,h20,h24,h30,Al_Bool_true_and,Al_Bool_false_and,Bool.true_or,Al_Bool_false_or,Bool.or_false,Bool.or_true];done) | (simp only [h10,h14,h20,h24,Al_Bool_true_and,Al_Bool_false_and,Bool.true_or,Al_Bool_false_or,Bool.or_false,Bool.or_true];done) | (simp only [h10,h14,h24,h30,Al_Bool_true_and,Al_Bool_false_and,Bool.true_or,Al_Bool_false_or,Bool.or_false,Bool.or_true];done) | (simp only [h10,h14,h24,Al_Bool_true_and,Al_Bool_false_and,Bool.true_or,Al_Bool_false_or,Bool.or_false,Bool.or_true];done) | (simp only [h10,h14,h20,Al_Bool_true_and,Al_Bool_false_and,Bool.true_or,Al_Bool_false_or,Bool.or_false,Bool.or_true];done) | (simp only [h10,Al_Bool_true_and,Al_Bool_false_and,Bool.true_or,Al_Bool_false_or,Bool.or_false,Bool.or_true];done) )
  refine .gy (.fieldAddr Z Fx.field157_1)<|.gy (.load Z Fx.agg4 Hm Z)<|.gy (.not Z)<|.gy (.move Z)<|.b2 (λh14=>?_) (λh14=>?_)
  ·refine .gy (.fieldAddr Z Fx.field35_1)<|.gy (.load Z Fx.agg9 mem1 Z)<|.gy (.cast (.neS Z Z) (congrArg Value.bool decide_not))<|.gy (.pickT Z Z)<|.yw (.pickF Z Z)<|.mv Z<|.b2 (λh20=>?_) (λh20=>?_)
   ·exact .gG<|.gG<|.gG<|.gG<|.gV<|.gV<|.gV<|.gG<|.yw (.pickT Z Z)<|.mv Z<|.gG<|.gG<|.gG<|.gG<|.gG<|.gG<|.gG<|.yw (.pickT Z Z)<|.nt<|.me _ ⟨Z,Jt⟩ ⟨Z,Z,Jt⟩ (λ_ s=>s) (by first | (simp only [h10,h14,h20,h24,h30,Al_Bool_true_and,Al_Bool_false_and,Bool.true_or,Al_Bool_false_or,Bool.or_false,Bool.or_true];done) | (simp only [h10,h14,h20,h24,Al_Bool_true_and,Al_Bool_false_and,Bool.true_or,Al_Bool_false_or,Bool.or_false,Bool.or_true];done) | (simp only [h10,h14,h24,h30,Al_Bool_true_and,Al_Bool_false_and,Bool.true_or,Al_Bool_false_or,Bool.or_false,Bool.or_true];done) | (simp only [h10,h14,h24,Al_Bool_true_and,Al_Bool_false_and,Bool.true_or,Al_Bool_false_or,Bool.or_false,Bool.or_true];done) | (simp only [h10,h14,h20,Al_Bool_true_and,Al_Bool_false_and,Bool.true_or,Al_Bool_false_or,Bool.or_false,Bool.or_true];done) | (simp only [h10,Al_Bool_true_and,Al_Bool_false_and,Bool.true_or,Al_Bool_false_or,Bool.or_false,Bool.or_true];done) )
   refine .gy (.fieldAddr Z Fx.field157_2)<|.gy (.load Z Fx.agg4 Hm Z)<|.gy (.not Z)<|.gy (.move Z)<|.b2 (λh24=>?_) (λh24=>?_)
   ·refine .gy (.fieldAddr Z Fx.field35_2)<|.gy (.load Z Fx.agg9 mem1 Z)<|.gy (.cast (.neS Z Z) (congrArg Value.bool decide_not))<|.gy (.pickT Z Z)<|.yw (.pickF Z Z)<|.mv Z<|.b2 (λh30=>?_) (λh30=>?_)
    ·exact .gG<|.gG<|.gG<|.gG<|.gG<|.gG<|.gG<|.yw (.pickT Z Z)<|.nt<|.me _ ⟨Z,Jt⟩ ⟨Z,Z,Jt⟩ (λ_ s=>s) (by first | (simp only [h10,h14,h20,h24,h30,Al_Bool_true_and,Al_Bool_false_and,Bool.true_or,Al_Bool_false_or,Bool.or_false,Bool.or_true];done) | (simp only [h10,h14,h20,h24,Al_Bool_true_and,Al_Bool_false_and,Bool.true_or,Al_Bool_false_or,Bool.or_false,Bool.or_true];done) | (simp only [h10,h14,h24,h30,Al_Bool_true_and,Al_Bool_false_and,Bool.true_or,Al_Bool_false_or,Bool.or_false,Bool.or_true];done) | (simp only [h10,h14,h24,Al_Bool_true_and,Al_Bool_false_and,Bool.true_or,Al_Bool_false_or,Bool.or_false,Bool.or_true];done) | (simp only [h10,h14,h20,Al_Bool_true_and,Al_Bool_false_and,Bool.true_or,Al_Bool_false_or,Bool.or_false,Bool.or_true];done) | (simp only [h10,Al_Bool_true_and,Al_Bool_false_and,Bool.true_or,Al_Bool_false_or,Bool.or_false,Bool.or_true];done) )
    exact .gy (.fieldAddr Z Fx.field35_6)<|.gy (.load Z Fx.agg33 mem1 Z)<|.gy (.lenSl Fx.sl33 Z)<|.gy (.fieldAddr Z Fx.field157_6)<|.gy (.load Z Fx.agg5 Hm Z)<|.gy (.conv Z Fx.int5 Fx.int3 (c:=(((fsOf op).ar:Nat):Int)) (w64 (by omega) (by have:=fs_small op;omega)))<|.gy (.cast (.neq Z Z) (congrArg Value.bool nn0))<|.yw (.pickF Z Z)<|.nt<|.me _ ⟨Z,Jt⟩ ⟨Z,Z,Jt⟩ (λ_ s=>s) (by first | (simp only [h10,h14,h20,h24,h30,Al_Bool_true_and,Al_Bool_false_and,Bool.true_or,Al_Bool_false_or,Bool.or_false,Bool.or_true];done) | (simp only [h10,h14,h20,h24,Al_Bool_true_and,Al_Bool_false_and,Bool.true_or,Al_Bool_false_or,Bool.or_false,Bool.or_true];done) | (simp only [h10,h14,h24,h30,Al_Bool_true_and,Al_Bool_false_and,Bool.true_or,Al_Bool_false_or,Bool.or_false,Bool.or_true];done) | (simp only [h10,h14,h24,Al_Bool_true_and,Al_Bool_false_and,Bool.true_or,Al_Bool_false_or,Bool.or_false,Bool.or_true];done) | (simp only [h10,h14,h20,Al_Bool_true_and,Al_Bool_false_and,Bool.true_or,Al_Bool_false_or,Bool.or_false,Bool.or_true];done) | (simp only [h10,Al_Bool_true_and,Al_Bool_false_and,Bool.true_or,Al_Bool_false_or,Bool.or_false,Bool.or_true];done) )
   exact .gG<|.gG<|.gG<|.gy (.pickF Z Z)<|.yw (.pickF Z Z)<|.mv Z<|.gy (.fieldAddr Z Fx.field35_6)<|.gy (.load Z Fx.agg33 mem1 Z)<|.gy (.lenSl Fx.sl33 Z)<|.gy (.fieldAddr Z Fx.field157_6)<|.gy (.load Z Fx.agg5 Hm Z)<|.gy (.conv Z Fx.int5 Fx.int3 (c:=(((fsOf op).ar:Nat):Int)) (w64 (by omega) (by have:=fs_small op;omega)))<|.gy (.cast (.neq Z Z) (congrArg Value.bool nn0))<|.yw (.pickF Z Z)<|.nt<|.me _ ⟨Z,Jt⟩ ⟨Z,Z,Jt⟩ (λ_ s=>s) (by first | (simp only [h10,h14,h20,h24,h30,Al_Bool_true_and,Al_Bool_false_and,Bool.true_or,Al_Bool_false_or,Bool.or_false,Bool.or_true];done) | (simp only [h10,h14,h20,h24,Al_Bool_true_and,Al_Bool_false_and,Bool.true_or,Al_Bool_false_or,Bool.or_false,Bool.or_true];done) | (simp only [h10,h14,h24,h30,Al_Bool_true_and,Al_Bool_false_and,Bool.true_or,Al_Bool_false_or,Bool.or_false,Bool.or_true];done) | (simp only [h10,h14,h24,Al_Bool_true_and,Al_Bool_false_and,Bool.true_or,Al_Bool_false_or,Bool.or_false,Bool.or_true];done) | (simp only [h10,h14,h20,Al_Bool_true_and,Al_Bool_false_and,Bool.true_or,Al_Bool_false_or,Bool.or_false,Bool.or_true];done) | (simp only [h10,Al_Bool_true_and,Al_Bool_false_and,Bool.true_or,Al_Bool_false_or,Bool.or_false,Bool.or_true];done) )
  refine .gG<|.gG<|.gG<|.gy (.pickF Z Z)<|.yw (.pickF Z Z)<|.mv Z<|.gy (.fieldAddr Z Fx.field157_2)<|.gy (.load Z Fx.agg4 Hm Z)<|.gy (.not Z)<|.gy (.move Z)<|.b2 (λh24=>?_) (λh24=>?_)
  ·refine .gy (.fieldAddr Z Fx.field35_2)<|.gy (.load Z Fx.agg9 mem1 Z)<|.gy (.cast (.neS Z Z) (congrArg Value.bool decide_not))<|.gy (.pickT Z Z)<|.yw (.pickF Z Z)<|.mv Z<|.b2 (λh30=>?_) (λh30=>?_)
   ·exact .gG<|.gG<|.gG<|.gG<|.gG<|.gG<|.gG<|.yw (.pickT Z Z)<|.nt<|.me _ ⟨Z,Jt⟩ ⟨Z,Z,Jt⟩ (λ_ s=>s) (by first | (simp only [h10,h14,h20,h24,h30,Al_Bool_true_and,Al_Bool_false_and,Bool.true_or,Al_Bool_false_or,Bool.or_false,Bool.or_true];done) | (simp only [h10,h14,h20,h24,Al_Bool_true_and,Al_Bool_false_and,Bool.true_or,Al_Bool_false_or,Bool.or_false,Bool.or_true];done) | (simp only [h10,h14,h24,h30,Al_Bool_true_and,Al_Bool_false_and,Bool.true_or,Al_Bool_false_or,Bool.or_false,Bool.or_true];done) | (simp only [h10,h14,h24,Al_Bool_true_and,Al_Bool_false_and,Bool.true_or,Al_Bool_false_or,Bool.or_false,Bool.or_true];done) | (simp only [h10,h14,h20,Al_Bool_true_and,Al_Bool_false_and,Bool.true_or,Al_Bool_false_or,Bool.or_false,Bool.or_true];done) | (simp only [h10,Al_Bool_true_and,Al_Bool_false_and,Bool.true_or,Al_Bool_false_or,Bool.or_false,Bool.or_true];done) )
   exact .gy (.fieldAddr Z Fx.field35_6)<|.gy (.load Z Fx.agg33 mem1 Z)<|.gy (.lenSl Fx.sl33 Z)<|.gy (.fieldAddr Z Fx.field157_6)<|.gy (.load Z Fx.agg5 Hm Z)<|.gy (.conv Z Fx.int5 Fx.int3 (c:=(((fsOf op).ar:Nat):Int)) (w64 (by omega) (by have:=fs_small op;omega)))<|.gy (.cast (.neq Z Z) (congrArg Value.bool nn0))<|.yw (.pickF Z Z)<|.nt<|.me _ ⟨Z,Jt⟩ ⟨Z,Z,Jt⟩ (λ_ s=>s) (by first | (simp only [h10,h14,h20,h24,h30,Al_Bool_true_and,Al_Bool_false_and,Bool.true_or,Al_Bool_false_or,Bool.or_false,Bool.or_true];done) | (simp only [h10,h14,h20,h24,Al_Bool_true_and,Al_Bool_false_and,Bool.true_or,Al_Bool_false_or,Bool.or_false,Bool.or_true];done) | (simp only [h10,h14,h24,h30,Al_Bool_true_and,Al_Bool_false_and,Bool.true_or,Al_Bool_false_or,Bool.or_false,Bool.or_true];done) | (simp only [h10,h14,h24,Al_Bool_true_and,Al_Bool_false_and,Bool.true_or,Al_Bool_false_or,Bool.or_false,Bool.or_true];done) | (simp only [h10,h14,h20,Al_Bool_true_and,Al_Bool_false_and,Bool.true_or,Al_Bool_false_or,Bool.or_false,Bool.or_true];done) | (simp only [h10,Al_Bool_true_and,Al_Bool_false_and,Bool.true_or,Al_Bool_false_or,Bool.or_false,Bool.or_true];done) )
  exact .gG<|.gG<|.gG<|.gy (.pickF Z Z)<|.yw (.pickF Z Z)<|.mv Z<|.gy (.fieldAddr Z Fx.field35_6)<|.gy (.load Z Fx.agg33 mem1 Z)<|.gy (.lenSl Fx.sl33 Z)<|.gy (.fieldAddr Z Fx.field157_6)<|.gy (.load Z Fx.agg5 Hm Z)<|.gy (.conv Z Fx.int5 Fx.int3 (c:=(((fsOf op).ar:Nat):Int)) (w64 (by omega) (by have:=fs_small op;omega)))<|.gy (.cast (.neq Z Z) (congrArg Value.bool nn0))<|.yw (.pickF Z Z)<|.nt<|.me _ ⟨Z,Jt⟩ ⟨Z,Z,Jt⟩ (λ_ s=>s) (by first | (simp only [h10,h14,h20,h24,h30,Al_Bool_true_and,Al_Bool_false_and,Bool.true_or,Al_Bool_false_or,Bool.or_false,Bool.or_true];done) | (simp only [h10,h14,h20,h24,Al_Bool_true_and,Al_Bool_false_and,Bool.true_or,Al_Bool_false_or,Bool.or_false,Bool.or_true];done) | (simp only [h10,h14,h24,h30,Al_Bool_true_and,Al_Bool_false_and,Bool.true_or,Al_Bool_false_or,Bool.or_false,Bool.or_true];done) | (simp only [h10,h14,h24,Al_Bool_true_and,Al_Bool_false_and,Bool.true_or,Al_Bool_false_or,Bool.or_false,Bool.or_true];done) | (simp only [h10,h14,h20,Al_Bool_true_and,Al_Bool_false_and,Bool.true_or,Al_Bool_false_or,Bool.or_false,Bool.or_true];done) | (simp only [h10,Al_Bool_true_and,Al_Bool_false_and,Bool.true_or,Al_Bool_false_or,Bool.or_false,Bool.or_true];done) )
 have ez:=hC;refine .cd Z (λh38=>?_) (λh38=>?_)
 ·refine .sr<|.az Z<|.tR<|?_
  refine y9 Z Z λW s=>⟨?_,s.ext⟩
  first
   | (rw [form_bad (ez.symm.trans h38)])
   | (rw [form_bnd (by rw [bnd_w h39,Al_decide_eq_false (Al_of_decide_eq_true (by rw [h66] at ew;exact ew.symm))])])
   | (rw [form_bnd (by rw [bnd_a h39 h67,Al_decide_eq_false (Al_of_decide_eq_true (by rw [h92] at ea;exact ea.symm))])])
   | (rw [form_bnd (by rw [bnd_n h39 h67,Al_decide_eq_false (Al_of_decide_eq_true (by rw [h93] at en;exact en.symm))])])
   | (rw [form_ok (ez.symm.trans h38) hb,exs7 q7,h109,Al_Bool_true_and,all_frm])
   | (rw [form_ok (ez.symm.trans h38) hb,exs7 q7,h109];rfl)
   | (rw [form_ok (ez.symm.trans h38) hb,exsL q7 hlx])
   | (rw [form_ok (ez.symm.trans h38) hb,exs3 q3])
   | (rw [form_ok (ez.symm.trans h38) hb,exs5 q5])
   | (rw [form_ok (ez.symm.trans h38) hb,exs18 q18,h146,h153,Al_Bool_true_and,Al_Bool_true_and])
   | (rw [form_ok (ez.symm.trans h38) hb,exs18 q18,h146,h153];rfl)
   | (rw [form_ok (ez.symm.trans h38) hb,exs18 q18,h146];rfl)
   | (rw [form_ok (ez.symm.trans h38) hb,exsN q7 hlx q3 q5 q18])
 refine .sk<|.tN<|.cu (X:=Unit) [(1,_),(3,_)] ⟨Z,Z,Jt⟩ (λz=>[]) (λz=>H) (λz=>[.box b3 (fsC (fsOf op)) 157,.box b1 [.int .u8 op.toNat,strV nm,strV fd,.int .i64 a.toInt,.int .i64 b.toInt,.slice p1 ex.length c1,.slice p2 args.length c2] 35]) (λz=>bndB (.mk op nm fd a b ex args)=true) ?_ λz hC=>?_
 ·
  refine .bk<|.sr<|.fA Z Fx.field157_3<|.lD Z Fx.agg4 Hm Z<|.aq Z<|.cd Z (λh39=>?_) (λh39=>?_)
  ·refine .cu (X:=Bool) [(1,_),(3,_)] ⟨Z,Z,Jt⟩ (λz=>[(66,.bool z)]) (λz=>H) (λz=>[.box b3 (fsC (fsOf op)) 157,.box b1 [.int .u8 op.toNat,strV nm,strV fd,.int .i64 a.toInt,.int .i64 b.toInt,.slice p1 ex.length c1,.slice p2 args.length c2] 35]) (λz=>z=decide (¬ ((a.toInt=0/\b.toInt=-1)\/(0<=a.toInt/\a.toInt<=b.toInt/\b.toInt<=200)))) ?_ λz hC=>?_
   ·
    refine .rg<|.fA Z Fx.field35_3<|.lD Z Fx.agg3 mem1 Z<|.yw (.neq Z Z)<|.mv Z<|.e2 (λh45=>?_) (λh45=>?_)
    ·refine .gG<|.gG<|.gG<|.yw (.pickT Z Z)<|.mv Z<|.gy (.fieldAddr Z Fx.field35_3)<|.gy (.load Z Fx.agg3 mem1 Z)<|.gy (.lss Z Z)<|.gy (.move Z)<|.b2 (λh54=>?_) (λh54=>?_)
     ·try simp only [dt] at h54
      exact .gG<|.gG<|.gG<|.gG<|.gG<|.gy (.pickT Z Z)<|.gy (.move Z)<|.gG<|.gG<|.gG<|.gy (.pickT Z Z)<|.yw (.pickT Z Z)<|.nt<|.me _ ⟨Z,Jt⟩ ⟨Z,Z,Jt⟩ (λ_ s=>s) (by rw [Al_Bool_eq_iff_iff,Al_decide_eq_true_eq];first | (rw [Al_decide_eq_true_eq];omega) | exact ⟨λ_=>by omega,λ_=>rfl⟩ | exact ⟨λh=>(by cases h),λh=>by omega⟩)
     try simp only [df] at h54
     refine .gy (.fieldAddr Z Fx.field35_3)<|.gy (.load Z Fx.agg3 mem1 Z)<|.gy (.fieldAddr Z Fx.field35_4)<|.gy (.load Z Fx.agg3 mem1 Z)<|.gy (.gtr Z Z)<|.gy (.pickF Z Z)<|.gy (.move Z)<|.b2 (λh61=>?_) (λh61=>?_)
     ·try simp only [dt] at h61
      exact .gG<|.gG<|.gG<|.gy (.pickT Z Z)<|.yw (.pickT Z Z)<|.nt<|.me _ ⟨Z,Jt⟩ ⟨Z,Z,Jt⟩ (λ_ s=>s) (by rw [Al_Bool_eq_iff_iff,Al_decide_eq_true_eq];first | (rw [Al_decide_eq_true_eq];omega) | exact ⟨λ_=>by omega,λ_=>rfl⟩ | exact ⟨λh=>(by cases h),λh=>by omega⟩)
     try simp only [df] at h61
     exact .gy (.fieldAddr Z Fx.field35_4)<|.gy (.load Z Fx.agg3 mem1 Z)<|.gy (.gtr Z Z)<|.gy (.pickF Z Z)<|.yw (.pickT Z Z)<|.nt<|.me _ ⟨Z,Jt⟩ ⟨Z,Z,Jt⟩ (λ_ s=>s) (by rw [Al_Bool_eq_iff_iff,Al_decide_eq_true_eq];first | (rw [Al_decide_eq_true_eq];omega) | exact ⟨λ_=>by omega,λ_=>rfl⟩ | exact ⟨λh=>(by cases h),λh=>by omega⟩)
    refine .gy (.fieldAddr Z Fx.field35_4)<|.gy (.load Z Fx.agg3 mem1 Z)<|.gy (.neq Z Z)<|.yw (.pickF Z Z)<|.mv Z<|.e2 (λh50=>?_) (λh50=>?_)
    ·refine .gy (.fieldAddr Z Fx.field35_3)<|.gy (.load Z Fx.agg3 mem1 Z)<|.gy (.lss Z Z)<|.gy (.move Z)<|.b2 (λh54=>?_) (λh54=>?_)
     ·try simp only [dt] at h54
      exact .gG<|.gG<|.gG<|.gG<|.gG<|.gy (.pickT Z Z)<|.gy (.move Z)<|.gG<|.gG<|.gG<|.gy (.pickT Z Z)<|.yw (.pickT Z Z)<|.nt<|.me _ ⟨Z,Jt⟩ ⟨Z,Z,Jt⟩ (λ_ s=>s) (by rw [Al_Bool_eq_iff_iff,Al_decide_eq_true_eq];first | (rw [Al_decide_eq_true_eq];omega) | exact ⟨λ_=>by omega,λ_=>rfl⟩ | exact ⟨λh=>(by cases h),λh=>by omega⟩)
     try simp only [df] at h54
     refine .gy (.fieldAddr Z Fx.field35_3)<|.gy (.load Z Fx.agg3 mem1 Z)<|.gy (.fieldAddr Z Fx.field35_4)<|.gy (.load Z Fx.agg3 mem1 Z)<|.gy (.gtr Z Z)<|.gy (.pickF Z Z)<|.gy (.move Z)<|.b2 (λh61=>?_) (λh61=>?_)
     ·try simp only [dt] at h61
      exact .gG<|.gG<|.gG<|.gy (.pickT Z Z)<|.yw (.pickT Z Z)<|.nt<|.me _ ⟨Z,Jt⟩ ⟨Z,Z,Jt⟩ (λ_ s=>s) (by rw [Al_Bool_eq_iff_iff,Al_decide_eq_true_eq];first | (rw [Al_decide_eq_true_eq];omega) | exact ⟨λ_=>by omega,λ_=>rfl⟩ | exact ⟨λh=>(by cases h),λh=>by omega⟩)
     try simp only [df] at h61
     exact .gy (.fieldAddr Z Fx.field35_4)<|.gy (.load Z Fx.agg3 mem1 Z)<|.gy (.gtr Z Z)<|.gy (.pickF Z Z)<|.yw (.pickT Z Z)<|.nt<|.me _ ⟨Z,Jt⟩ ⟨Z,Z,Jt⟩ (λ_ s=>s) (by rw [Al_Bool_eq_iff_iff,Al_decide_eq_true_eq];first | (rw [Al_decide_eq_true_eq];omega) | exact ⟨λ_=>by omega,λ_=>rfl⟩ | exact ⟨λh=>(by cases h),λh=>by omega⟩)
    exact .gG<|.gG<|.gG<|.gG<|.gV<|.gV<|.gV<|.gV<|.gV<|.gG<|.gG<|.gV<|.gV<|.gV<|.gG<|.yw (.pickF Z Z)<|.nt<|.me _ ⟨Z,Jt⟩ ⟨Z,Z,Jt⟩ (λ_ s=>s) (by rw [Al_Bool_eq_iff_iff,Al_decide_eq_true_eq];first | (rw [Al_decide_eq_true_eq];omega) | exact ⟨λ_=>by omega,λ_=>rfl⟩ | exact ⟨λh=>(by cases h),λh=>by omega⟩)
   have ew:=hC;refine .cd Z (λh66=>?_) (λh66=>?_)
   ·refine .sr<|.az Z<|.bR<|.tR<|?_
    refine y9 Z Z λW s=>⟨?_,s.ext⟩
    first
     | (rw [form_bad (ez.symm.trans h38)])
     | (rw [form_bnd (by rw [bnd_w h39,Al_decide_eq_false (Al_of_decide_eq_true (by rw [h66] at ew;exact ew.symm))])])
     | (rw [form_bnd (by rw [bnd_a h39 h67,Al_decide_eq_false (Al_of_decide_eq_true (by rw [h92] at ea;exact ea.symm))])])
     | (rw [form_bnd (by rw [bnd_n h39 h67,Al_decide_eq_false (Al_of_decide_eq_true (by rw [h93] at en;exact en.symm))])])
     | (rw [form_ok (ez.symm.trans h38) hb,exs7 q7,h109,Al_Bool_true_and,all_frm])
     | (rw [form_ok (ez.symm.trans h38) hb,exs7 q7,h109];rfl)
     | (rw [form_ok (ez.symm.trans h38) hb,exsL q7 hlx])
     | (rw [form_ok (ez.symm.trans h38) hb,exs3 q3])
     | (rw [form_ok (ez.symm.trans h38) hb,exs5 q5])
     | (rw [form_ok (ez.symm.trans h38) hb,exs18 q18,h146,h153,Al_Bool_true_and,Al_Bool_true_and])
     | (rw [form_ok (ez.symm.trans h38) hb,exs18 q18,h146,h153];rfl)
     | (rw [form_ok (ez.symm.trans h38) hb,exs18 q18,h146];rfl)
     | (rw [form_ok (ez.symm.trans h38) hb,exsN q7 hlx q3 q5 q18])
   exact .sk<|.bN<|.tN<|.me () trivial ⟨Z,Z,Jt⟩ (λ_ s=>s) (by first | (rw [bnd_w h39,Al_decide_eq_true (Classical.byContradiction λe=>by rw [h66] at ew;rw [Al_decide_eq_true e] at ew;cases ew)]) | (rw [bnd_a h39 h67,Al_decide_eq_true (Classical.byContradiction λe=>by rw [h92] at ea;rw [Al_decide_eq_true e] at ea;cases ea)]) | (rw [bnd_n h39 h67,Al_decide_eq_true (Classical.byContradiction λe=>by rw [h93] at en;rw [Al_decide_eq_true e] at en;cases en)]))
  refine .sr<|.fA Z Fx.field157_4<|.lD Z Fx.agg4 Hm Z<|.aq Z<|.cd Z (λh67=>?_) (λh67=>?_)
  ·refine .cu (X:=Bool) [(1,_),(3,_)] ⟨Z,Z,Jt⟩ (λz=>[(92,.bool z)]) (λz=>H) (λz=>[.box b3 (fsC (fsOf op)) 157,.box b1 [.int .u8 op.toNat,strV nm,strV fd,.int .i64 a.toInt,.int .i64 b.toInt,.slice p1 ex.length c1,.slice p2 args.length c2] 35]) (λz=>z=decide (¬ (-1000000<=a.toInt/\a.toInt<=b.toInt/\b.toInt<=1000000/\b.toInt - a.toInt<32))) ?_ λz hC=>?_
   ·
    refine .rg<|.fA Z Fx.field35_3<|.lD Z Fx.agg3 mem1 Z<|.yw (.lss Z Z)<|.mv Z<|.e2 (λh73=>?_) (λh73=>?_)
    ·exact .gG<|.gG<|.gG<|.gG<|.gG<|.yw (.pickT Z Z)<|.mv Z<|.gG<|.gG<|.gG<|.yw (.pickT Z Z)<|.mv Z<|.gG<|.gG<|.gG<|.gG<|.gG<|.gG<|.yw (.pickT Z Z)<|.nt<|.me _ ⟨Z,Jt⟩ ⟨Z,Z,Jt⟩ (λ_ s=>s) (by rw [Al_Bool_eq_iff_iff,Al_decide_eq_true_eq];first | (rw [Al_decide_eq_true_eq];omega) | exact ⟨λ_=>by omega,λ_=>rfl⟩ | exact ⟨λh=>(by cases h),λh=>by omega⟩)
    refine .gy (.fieldAddr Z Fx.field35_3)<|.gy (.load Z Fx.agg3 mem1 Z)<|.gy (.fieldAddr Z Fx.field35_4)<|.gy (.load Z Fx.agg3 mem1 Z)<|.gy (.gtr Z Z)<|.yw (.pickF Z Z)<|.mv Z<|.e2 (λh80=>?_) (λh80=>?_)
    ·exact .gG<|.gG<|.gG<|.yw (.pickT Z Z)<|.mv Z<|.gG<|.gG<|.gG<|.gG<|.gG<|.gG<|.yw (.pickT Z Z)<|.nt<|.me _ ⟨Z,Jt⟩ ⟨Z,Z,Jt⟩ (λ_ s=>s) (by rw [Al_Bool_eq_iff_iff,Al_decide_eq_true_eq];first | (rw [Al_decide_eq_true_eq];omega) | exact ⟨λ_=>by omega,λ_=>rfl⟩ | exact ⟨λh=>(by cases h),λh=>by omega⟩)
    refine .gy (.fieldAddr Z Fx.field35_4)<|.gy (.load Z Fx.agg3 mem1 Z)<|.gy (.gtr Z Z)<|.yw (.pickF Z Z)<|.mv Z<|.e2 (λh85=>?_) (λh85=>?_)
    ·exact .gG<|.gG<|.gG<|.gG<|.gG<|.gG<|.yw (.pickT Z Z)<|.nt<|.me _ ⟨Z,Jt⟩ ⟨Z,Z,Jt⟩ (λ_ s=>s) (by rw [Al_Bool_eq_iff_iff,Al_decide_eq_true_eq];first | (rw [Al_decide_eq_true_eq];omega) | exact ⟨λ_=>by omega,λ_=>rfl⟩ | exact ⟨λh=>(by cases h),λh=>by omega⟩)
    exact .gy (.fieldAddr Z Fx.field35_4)<|.gy (.load Z Fx.agg3 mem1 Z)<|.gy (.fieldAddr Z Fx.field35_3)<|.gy (.load Z Fx.agg3 mem1 Z)<|.gy (.sub Z Z (w6 (by omega)))<|.gy (.geq Z Z)<|.yw (.pickF Z Z)<|.nt<|.me _ ⟨Z,Jt⟩ ⟨Z,Z,Jt⟩ (λ_ s=>s) (by rw [Al_Bool_eq_iff_iff,Al_decide_eq_true_eq];first | (rw [Al_decide_eq_true_eq];omega) | exact ⟨λ_=>by omega,λ_=>rfl⟩ | exact ⟨λh=>(by cases h),λh=>by omega⟩)
   have ea:=hC;refine .cd Z (λh92=>?_) (λh92=>?_)
   ·refine .sr<|.az Z<|.bR<|.tR<|?_
    refine y9 Z Z λW s=>⟨?_,s.ext⟩
    first
     | (rw [form_bad (ez.symm.trans h38)])
     | (rw [form_bnd (by rw [bnd_w h39,Al_decide_eq_false (Al_of_decide_eq_true (by rw [h66] at ew;exact ew.symm))])])
     | (rw [form_bnd (by rw [bnd_a h39 h67,Al_decide_eq_false (Al_of_decide_eq_true (by rw [h92] at ea;exact ea.symm))])])
     | (rw [form_bnd (by rw [bnd_n h39 h67,Al_decide_eq_false (Al_of_decide_eq_true (by rw [h93] at en;exact en.symm))])])
     | (rw [form_ok (ez.symm.trans h38) hb,exs7 q7,h109,Al_Bool_true_and,all_frm])
     | (rw [form_ok (ez.symm.trans h38) hb,exs7 q7,h109];rfl)
     | (rw [form_ok (ez.symm.trans h38) hb,exsL q7 hlx])
     | (rw [form_ok (ez.symm.trans h38) hb,exs3 q3])
     | (rw [form_ok (ez.symm.trans h38) hb,exs5 q5])
     | (rw [form_ok (ez.symm.trans h38) hb,exs18 q18,h146,h153,Al_Bool_true_and,Al_Bool_true_and])
     | (rw [form_ok (ez.symm.trans h38) hb,exs18 q18,h146,h153];rfl)
     | (rw [form_ok (ez.symm.trans h38) hb,exs18 q18,h146];rfl)
     | (rw [form_ok (ez.symm.trans h38) hb,exsN q7 hlx q3 q5 q18])
   exact .sk<|.bN<|.tN<|.me () trivial ⟨Z,Z,Jt⟩ (λ_ s=>s) (by first | (rw [bnd_w h39,Al_decide_eq_true (Classical.byContradiction λe=>by rw [h66] at ew;rw [Al_decide_eq_true e] at ew;cases ew)]) | (rw [bnd_a h39 h67,Al_decide_eq_true (Classical.byContradiction λe=>by rw [h92] at ea;rw [Al_decide_eq_true e] at ea;cases ea)]) | (rw [bnd_n h39 h67,Al_decide_eq_true (Classical.byContradiction λe=>by rw [h93] at en;rw [Al_decide_eq_true e] at en;cases en)]))
  refine .cu (X:=Bool) [(1,_),(3,_)] ⟨Z,Z,Jt⟩ (λz=>[(93,.bool z)]) (λz=>H) (λz=>[.box b3 (fsC (fsOf op)) 157,.box b1 [.int .u8 op.toNat,strV nm,strV fd,.int .i64 a.toInt,.int .i64 b.toInt,.slice p1 ex.length c1,.slice p2 args.length c2] 35]) (λz=>z=decide (¬ (a.toInt=0/\b.toInt=0))) ?_ λz hC=>?_
  ·
   refine .rg<|.fA Z Fx.field35_3<|.lD Z Fx.agg3 mem1 Z<|.yw (.neq Z Z)<|.mv Z<|.e2 (λh97=>?_) (λh97=>?_)
   ·exact .gG<|.gG<|.gG<|.yw (.pickT Z Z)<|.aq Z<|.me _ ⟨Z,Jt⟩ ⟨Z,Z,Jt⟩ (λ_ s=>s) (by rw [Al_Bool_eq_iff_iff,Al_decide_eq_true_eq];first | (rw [Al_decide_eq_true_eq];omega) | exact ⟨λ_=>by omega,λ_=>rfl⟩ | exact ⟨λh=>(by cases h),λh=>by omega⟩)
   exact .gy (.fieldAddr Z Fx.field35_4)<|.gy (.load Z Fx.agg3 mem1 Z)<|.gy (.neq Z Z)<|.yw (.pickF Z Z)<|.aq Z<|.me _ ⟨Z,Jt⟩ ⟨Z,Z,Jt⟩ (λ_ s=>s) (by rw [Al_Bool_eq_iff_iff,Al_decide_eq_true_eq];first | (rw [Al_decide_eq_true_eq];omega) | exact ⟨λ_=>by omega,λ_=>rfl⟩ | exact ⟨λh=>(by cases h),λh=>by omega⟩)
  have en:=hC;refine .cd Z (λh93=>?_) (λh93=>?_)
  ·refine .sr<|.az Z<|.bR<|.tR<|?_
   refine y9 Z Z λW s=>⟨?_,s.ext⟩
   first
    | (rw [form_bad (ez.symm.trans h38)])
    | (rw [form_bnd (by rw [bnd_w h39,Al_decide_eq_false (Al_of_decide_eq_true (by rw [h66] at ew;exact ew.symm))])])
    | (rw [form_bnd (by rw [bnd_a h39 h67,Al_decide_eq_false (Al_of_decide_eq_true (by rw [h92] at ea;exact ea.symm))])])
    | (rw [form_bnd (by rw [bnd_n h39 h67,Al_decide_eq_false (Al_of_decide_eq_true (by rw [h93] at en;exact en.symm))])])
    | (rw [form_ok (ez.symm.trans h38) hb,exs7 q7,h109,Al_Bool_true_and,all_frm])
    | (rw [form_ok (ez.symm.trans h38) hb,exs7 q7,h109];rfl)
    | (rw [form_ok (ez.symm.trans h38) hb,exsL q7 hlx])
    | (rw [form_ok (ez.symm.trans h38) hb,exs3 q3])
    | (rw [form_ok (ez.symm.trans h38) hb,exs5 q5])
    | (rw [form_ok (ez.symm.trans h38) hb,exs18 q18,h146,h153,Al_Bool_true_and,Al_Bool_true_and])
    | (rw [form_ok (ez.symm.trans h38) hb,exs18 q18,h146,h153];rfl)
    | (rw [form_ok (ez.symm.trans h38) hb,exs18 q18,h146];rfl)
    | (rw [form_ok (ez.symm.trans h38) hb,exsN q7 hlx q3 q5 q18])
  exact .sk<|.bN<|.tN<|.me () trivial ⟨Z,Z,Jt⟩ (λ_ s=>s) (by first | (rw [bnd_w h39,Al_decide_eq_true (Classical.byContradiction λe=>by rw [h66] at ew;rw [Al_decide_eq_true e] at ew;cases ew)]) | (rw [bnd_a h39 h67,Al_decide_eq_true (Classical.byContradiction λe=>by rw [h92] at ea;rw [Al_decide_eq_true e] at ea;cases ea)]) | (rw [bnd_n h39 h67,Al_decide_eq_true (Classical.byContradiction λe=>by rw [h93] at en;rw [Al_decide_eq_true e] at en;cases en)]))
 have hb:=hC;refine .sq<|.sr<|.fA Z Fx.field35_0<|.lD Z Fx.agg31 mem1 Z<|.yw (.eql Z Z)<|.nt<|.cd Z (λh104=>?_) (λh104=>?_)
 ·have q7:op=7:=Al_UInt8_toNat_inj.1 (by have:=Al_of_decide_eq_true h104;show op.toNat=7;omega);refine .sr<|.fA Z Fx.field35_5<|.lD Z Fx.agg32 mem1 Z<|.yw (.lenSl Fx.sl32 Z)<|.yw (.cast (.leq Z Z) (congrArg Value.bool le4))<|.mv Z<|.b2 (λh109=>?_) (λh109=>?_)
  ·refine .gy (.fieldAddr Z Fx.field35_5)<|.gy (.load Z Fx.agg32 mem1 Z)<|.gy (.call Fx.call71 Z (λW s=>contains_any H 77 [] frm1B ex hs1 Fx.call77 (λa _=>formed1_any H a) W s.agr))<|.gy (.not Z)<|.yw (.pickT Z Z)<|.az Z<|.tR<|?_
   refine y9 Z Z λW s=>⟨?_,s.ext⟩
   first
    | (rw [form_bad (ez.symm.trans h38)])
    | (rw [form_bnd (by rw [bnd_w h39,Al_decide_eq_false (Al_of_decide_eq_true (by rw [h66] at ew;exact ew.symm))])])
    | (rw [form_bnd (by rw [bnd_a h39 h67,Al_decide_eq_false (Al_of_decide_eq_true (by rw [h92] at ea;exact ea.symm))])])
    | (rw [form_bnd (by rw [bnd_n h39 h67,Al_decide_eq_false (Al_of_decide_eq_true (by rw [h93] at en;exact en.symm))])])
    | (rw [form_ok (ez.symm.trans h38) hb,exs7 q7,h109,Al_Bool_true_and,all_frm])
    | (rw [form_ok (ez.symm.trans h38) hb,exs7 q7,h109];rfl)
    | (rw [form_ok (ez.symm.trans h38) hb,exsL q7 hlx])
    | (rw [form_ok (ez.symm.trans h38) hb,exs3 q3])
    | (rw [form_ok (ez.symm.trans h38) hb,exs5 q5])
    | (rw [form_ok (ez.symm.trans h38) hb,exs18 q18,h146,h153,Al_Bool_true_and,Al_Bool_true_and])
    | (rw [form_ok (ez.symm.trans h38) hb,exs18 q18,h146,h153];rfl)
    | (rw [form_ok (ez.symm.trans h38) hb,exs18 q18,h146];rfl)
    | (rw [form_ok (ez.symm.trans h38) hb,exsN q7 hlx q3 q5 q18])
  refine .gG<|.gG<|.gG<|.gG<|.yw (.pickF Z Z)<|.az Z<|.tR<|?_
  refine y9 Z Z λW s=>⟨?_,s.ext⟩
  first
   | (rw [form_bad (ez.symm.trans h38)])
   | (rw [form_bnd (by rw [bnd_w h39,Al_decide_eq_false (Al_of_decide_eq_true (by rw [h66] at ew;exact ew.symm))])])
   | (rw [form_bnd (by rw [bnd_a h39 h67,Al_decide_eq_false (Al_of_decide_eq_true (by rw [h92] at ea;exact ea.symm))])])
   | (rw [form_bnd (by rw [bnd_n h39 h67,Al_decide_eq_false (Al_of_decide_eq_true (by rw [h93] at en;exact en.symm))])])
   | (rw [form_ok (ez.symm.trans h38) hb,exs7 q7,h109,Al_Bool_true_and,all_frm])
   | (rw [form_ok (ez.symm.trans h38) hb,exs7 q7,h109];rfl)
   | (rw [form_ok (ez.symm.trans h38) hb,exsL q7 hlx])
   | (rw [form_ok (ez.symm.trans h38) hb,exs3 q3])
   | (rw [form_ok (ez.symm.trans h38) hb,exs5 q5])
   | (rw [form_ok (ez.symm.trans h38) hb,exs18 q18,h146,h153,Al_Bool_true_and,Al_Bool_true_and])
   | (rw [form_ok (ez.symm.trans h38) hb,exs18 q18,h146,h153];rfl)
   | (rw [form_ok (ez.symm.trans h38) hb,exs18 q18,h146];rfl)
   | (rw [form_ok (ez.symm.trans h38) hb,exsN q7 hlx q3 q5 q18])
 have q7:¬ op=7:=λe=>Al_of_decide_eq_false h104 (by rw [e];rfl);refine .sk<|.tN<|.sq<|.sr<|.fA Z Fx.field35_5<|.lD Z Fx.agg32 mem1 Z<|.yw (.lenSl Fx.sl32 Z)<|.fA Z Fx.field157_5<|.lD Z Fx.agg5 Hm Z<|.yw (.conv Z Fx.int5 Fx.int3 (c:=(((fsOf op).ex:Nat):Int)) (w64 (by omega) (by have:=fs_small op;omega)))<|.yw (.cast (.neq Z Z) (congrArg Value.bool nn0))<|.nt<|.cd Z (λh121=>?_) (λh121=>?_)
 ·have hlx:¬ ex.length=(fsOf op).ex:=λe=>by rw [Al_decide_eq_true e] at h121;cases h121
  refine .sr<|.az Z<|.tR<|?_
  refine y9 Z Z λW s=>⟨?_,s.ext⟩
  first
   | (rw [form_bad (ez.symm.trans h38)])
   | (rw [form_bnd (by rw [bnd_w h39,Al_decide_eq_false (Al_of_decide_eq_true (by rw [h66] at ew;exact ew.symm))])])
   | (rw [form_bnd (by rw [bnd_a h39 h67,Al_decide_eq_false (Al_of_decide_eq_true (by rw [h92] at ea;exact ea.symm))])])
   | (rw [form_bnd (by rw [bnd_n h39 h67,Al_decide_eq_false (Al_of_decide_eq_true (by rw [h93] at en;exact en.symm))])])
   | (rw [form_ok (ez.symm.trans h38) hb,exs7 q7,h109,Al_Bool_true_and,all_frm])
   | (rw [form_ok (ez.symm.trans h38) hb,exs7 q7,h109];rfl)
   | (rw [form_ok (ez.symm.trans h38) hb,exsL q7 hlx])
   | (rw [form_ok (ez.symm.trans h38) hb,exs3 q3])
   | (rw [form_ok (ez.symm.trans h38) hb,exs5 q5])
   | (rw [form_ok (ez.symm.trans h38) hb,exs18 q18,h146,h153,Al_Bool_true_and,Al_Bool_true_and])
   | (rw [form_ok (ez.symm.trans h38) hb,exs18 q18,h146,h153];rfl)
   | (rw [form_ok (ez.symm.trans h38) hb,exs18 q18,h146];rfl)
   | (rw [form_ok (ez.symm.trans h38) hb,exsN q7 hlx q3 q5 q18])
 have hlx:ex.length=(fsOf op).ex:=Classical.byContradiction λe=>by rw [Al_decide_eq_false e] at h121;cases h121
 refine .sk<|.tN<|.sq<|.sr<|.fA Z Fx.field35_0<|.lD Z Fx.agg31 mem1 Z<|.nt<|.bk<|.sr<|.yw (.eql Z Z)<|.aq Z<|.cd Z (λh124=>?_) (λh124=>?_)
 ·have q3:op=3:=Al_UInt8_toNat_inj.1 (by have:=Al_of_decide_eq_true h124;show op.toNat=3;omega);obtain ⟨e0,rfl⟩:∃ e0,ex=[e0]:=List.length_eq_one_iff.1 (by rw [hlx,q3];rfl);obtain ⟨bE,oE,cE,hpE,rE,lE,mE⟩:=hs1.elem (i:=0) (d:=dEx .u8 e0) rfl;cases hpE;refine .sr<|.fA Z Fx.field35_5<|.lD Z Fx.agg32 mem1 Z<|.yw (.indexSl Fx.sl32 Z Z (i:=0) Z (Nat.succ_pos _) (q:=oE+0 * 4) Z)<|.yw (.loadMW Z Fx.agg76 mE lE)<|.yw (.call Fx.call80 Z (λW s=>isCmp_any H e0 cE W rE s.agr))<|.az Z<|.bR<|.tR<|?_
  refine y9 Z Z λW s=>⟨?_,s.ext⟩
  first
   | (rw [form_bad (ez.symm.trans h38)])
   | (rw [form_bnd (by rw [bnd_w h39,Al_decide_eq_false (Al_of_decide_eq_true (by rw [h66] at ew;exact ew.symm))])])
   | (rw [form_bnd (by rw [bnd_a h39 h67,Al_decide_eq_false (Al_of_decide_eq_true (by rw [h92] at ea;exact ea.symm))])])
   | (rw [form_bnd (by rw [bnd_n h39 h67,Al_decide_eq_false (Al_of_decide_eq_true (by rw [h93] at en;exact en.symm))])])
   | (rw [form_ok (ez.symm.trans h38) hb,exs7 q7,h109,Al_Bool_true_and,all_frm])
   | (rw [form_ok (ez.symm.trans h38) hb,exs7 q7,h109];rfl)
   | (rw [form_ok (ez.symm.trans h38) hb,exsL q7 hlx])
   | (rw [form_ok (ez.symm.trans h38) hb,exs3 q3])
   | (rw [form_ok (ez.symm.trans h38) hb,exs5 q5])
   | (rw [form_ok (ez.symm.trans h38) hb,exs18 q18,h146,h153,Al_Bool_true_and,Al_Bool_true_and])
   | (rw [form_ok (ez.symm.trans h38) hb,exs18 q18,h146,h153];rfl)
   | (rw [form_ok (ez.symm.trans h38) hb,exs18 q18,h146];rfl)
   | (rw [form_ok (ez.symm.trans h38) hb,exsN q7 hlx q3 q5 q18])
 have q3:¬ op=3:=λe=>Al_of_decide_eq_false h124 (by rw [e];rfl);refine .sr<|.yw (.eql Z Z)<|.aq Z<|.cd Z (λh131=>?_) (λh131=>?_)
 ·have q5:op=5:=Al_UInt8_toNat_inj.1 (by have:=Al_of_decide_eq_true h131;show op.toNat=5;omega);obtain ⟨e0,rfl⟩:∃ e0,ex=[e0]:=List.length_eq_one_iff.1 (by rw [hlx,q5];rfl);obtain ⟨bE,oE,cE,hpE,rE,lE,mE⟩:=hs1.elem (i:=0) (d:=dEx .u8 e0) rfl;cases hpE;refine .sr<|.fA Z Fx.field35_5<|.lD Z Fx.agg32 mem1 Z<|.yw (.indexSl Fx.sl32 Z Z (i:=0) Z (Nat.succ_pos _) (q:=oE+0 * 4) Z)<|.yw (.loadMW Z Fx.agg76 mE lE)<|.yw (.call Fx.call79 Z (λW s=>isTerm_any H e0 cE W rE s.agr))<|.az Z<|.bR<|.tR<|?_
  refine y9 Z Z λW s=>⟨?_,s.ext⟩
  first
   | (rw [form_bad (ez.symm.trans h38)])
   | (rw [form_bnd (by rw [bnd_w h39,Al_decide_eq_false (Al_of_decide_eq_true (by rw [h66] at ew;exact ew.symm))])])
   | (rw [form_bnd (by rw [bnd_a h39 h67,Al_decide_eq_false (Al_of_decide_eq_true (by rw [h92] at ea;exact ea.symm))])])
   | (rw [form_bnd (by rw [bnd_n h39 h67,Al_decide_eq_false (Al_of_decide_eq_true (by rw [h93] at en;exact en.symm))])])
   | (rw [form_ok (ez.symm.trans h38) hb,exs7 q7,h109,Al_Bool_true_and,all_frm])
   | (rw [form_ok (ez.symm.trans h38) hb,exs7 q7,h109];rfl)
   | (rw [form_ok (ez.symm.trans h38) hb,exsL q7 hlx])
   | (rw [form_ok (ez.symm.trans h38) hb,exs3 q3])
   | (rw [form_ok (ez.symm.trans h38) hb,exs5 q5])
   | (rw [form_ok (ez.symm.trans h38) hb,exs18 q18,h146,h153,Al_Bool_true_and,Al_Bool_true_and])
   | (rw [form_ok (ez.symm.trans h38) hb,exs18 q18,h146,h153];rfl)
   | (rw [form_ok (ez.symm.trans h38) hb,exs18 q18,h146];rfl)
   | (rw [form_ok (ez.symm.trans h38) hb,exsN q7 hlx q3 q5 q18])
 have q5:¬ op=5:=λe=>Al_of_decide_eq_false h131 (by rw [e];rfl);refine .sr<|.yw (.eql Z Z)<|.aq Z<|.cd Z (λh138=>?_) (λh138=>?_)
 ·have q18:op=18:=Al_UInt8_toNat_inj.1 (by have:=Al_of_decide_eq_true h138;show op.toNat=18;omega);obtain ⟨e0,rfl⟩:∃ e0,ex=[e0]:=List.length_eq_one_iff.1 (by rw [hlx,q18];rfl);obtain ⟨bE,oE,cE,hpE,rE,lE,mE⟩:=hs1.elem (i:=0) (d:=dEx .u8 e0) rfl;cases hpE;obtain ⟨op0,nm0,m0,args0⟩:=e0;obtain ⟨p9,c9,rfl,hs9,hn9⟩:=ex_open rE;refine .sr<|.fA Z Fx.field35_5<|.lD Z Fx.agg32 mem1 Z<|.yw (.indexSl Fx.sl32 Z Z (i:=0) Z (Nat.succ_pos _) (q:=oE+0 * 4) Z)<|.fA Z Fx.field76_0<|.yw (.loadM Z Fx.agg74 mE (k:=0) Z Z)<|.yw (.eql Z Z)<|.mv Z<|.b2 (λh146=>?_) (λh146=>?_)
  ·refine .gy (.fieldAddr Z Fx.field35_5)<|.gy (.load Z Fx.agg32 mem1 Z)<|.gy (.indexSl Fx.sl32 Z Z (i:=0) Z (Nat.succ_pos _) (q:=oE+0 * 4) Z)<|.gy (.loadMW Z Fx.agg76 mE lE)<|.gy (.call Fx.call79 Z (λW s=>isTerm_any H _ _ W rE s.agr))<|.yw (.pickT Z Z)<|.mv Z<|.b2 (λh153=>?_) (λh153=>?_)
   ·refine .gy (.fieldAddr Z Fx.field35_5)<|.gy (.load Z Fx.agg32 mem1 Z)<|.gy (.indexSl Fx.sl32 Z Z (i:=0) Z (Nat.succ_pos _) (q:=oE+0 * 4) Z)<|.gy (.fieldAddr Z Fx.field76_2)<|.gy (.loadM Z Fx.agg2 mE (k:=2) Z Z)<|.gy (.leq Z Z)<|.yw (.pickT Z Z)<|.az Z<|.bR<|.tR<|?_
    refine y9 Z Z λW s=>⟨?_,s.ext⟩
    first
     | (rw [form_bad (ez.symm.trans h38)])
     | (rw [form_bnd (by rw [bnd_w h39,Al_decide_eq_false (Al_of_decide_eq_true (by rw [h66] at ew;exact ew.symm))])])
     | (rw [form_bnd (by rw [bnd_a h39 h67,Al_decide_eq_false (Al_of_decide_eq_true (by rw [h92] at ea;exact ea.symm))])])
     | (rw [form_bnd (by rw [bnd_n h39 h67,Al_decide_eq_false (Al_of_decide_eq_true (by rw [h93] at en;exact en.symm))])])
     | (rw [form_ok (ez.symm.trans h38) hb,exs7 q7,h109,Al_Bool_true_and,all_frm])
     | (rw [form_ok (ez.symm.trans h38) hb,exs7 q7,h109];rfl)
     | (rw [form_ok (ez.symm.trans h38) hb,exsL q7 hlx])
     | (rw [form_ok (ez.symm.trans h38) hb,exs3 q3])
     | (rw [form_ok (ez.symm.trans h38) hb,exs5 q5])
     | (rw [form_ok (ez.symm.trans h38) hb,exs18 q18,h146,h153,Al_Bool_true_and,Al_Bool_true_and])
     | (rw [form_ok (ez.symm.trans h38) hb,exs18 q18,h146,h153];rfl)
     | (rw [form_ok (ez.symm.trans h38) hb,exs18 q18,h146];rfl)
     | (rw [form_ok (ez.symm.trans h38) hb,exsN q7 hlx q3 q5 q18])
   refine .gG<|.gG<|.gG<|.gG<|.gG<|.gG<|.yw (.pickF Z Z)<|.az Z<|.bR<|.tR<|?_
   refine y9 Z Z λW s=>⟨?_,s.ext⟩
   first
    | (rw [form_bad (ez.symm.trans h38)])
    | (rw [form_bnd (by rw [bnd_w h39,Al_decide_eq_false (Al_of_decide_eq_true (by rw [h66] at ew;exact ew.symm))])])
    | (rw [form_bnd (by rw [bnd_a h39 h67,Al_decide_eq_false (Al_of_decide_eq_true (by rw [h92] at ea;exact ea.symm))])])
    | (rw [form_bnd (by rw [bnd_n h39 h67,Al_decide_eq_false (Al_of_decide_eq_true (by rw [h93] at en;exact en.symm))])])
    | (rw [form_ok (ez.symm.trans h38) hb,exs7 q7,h109,Al_Bool_true_and,all_frm])
    | (rw [form_ok (ez.symm.trans h38) hb,exs7 q7,h109];rfl)
    | (rw [form_ok (ez.symm.trans h38) hb,exsL q7 hlx])
    | (rw [form_ok (ez.symm.trans h38) hb,exs3 q3])
    | (rw [form_ok (ez.symm.trans h38) hb,exs5 q5])
    | (rw [form_ok (ez.symm.trans h38) hb,exs18 q18,h146,h153,Al_Bool_true_and,Al_Bool_true_and])
    | (rw [form_ok (ez.symm.trans h38) hb,exs18 q18,h146,h153];rfl)
    | (rw [form_ok (ez.symm.trans h38) hb,exs18 q18,h146];rfl)
    | (rw [form_ok (ez.symm.trans h38) hb,exsN q7 hlx q3 q5 q18])
  refine .gG<|.gG<|.gG<|.gG<|.gG<|.yw (.pickF Z Z)<|.mv Z<|.gG<|.gG<|.gG<|.gG<|.gG<|.gG<|.yw (.pickF Z Z)<|.az Z<|.bR<|.tR<|?_
  refine y9 Z Z λW s=>⟨?_,s.ext⟩
  first
   | (rw [form_bad (ez.symm.trans h38)])
   | (rw [form_bnd (by rw [bnd_w h39,Al_decide_eq_false (Al_of_decide_eq_true (by rw [h66] at ew;exact ew.symm))])])
   | (rw [form_bnd (by rw [bnd_a h39 h67,Al_decide_eq_false (Al_of_decide_eq_true (by rw [h92] at ea;exact ea.symm))])])
   | (rw [form_bnd (by rw [bnd_n h39 h67,Al_decide_eq_false (Al_of_decide_eq_true (by rw [h93] at en;exact en.symm))])])
   | (rw [form_ok (ez.symm.trans h38) hb,exs7 q7,h109,Al_Bool_true_and,all_frm])
   | (rw [form_ok (ez.symm.trans h38) hb,exs7 q7,h109];rfl)
   | (rw [form_ok (ez.symm.trans h38) hb,exsL q7 hlx])
   | (rw [form_ok (ez.symm.trans h38) hb,exs3 q3])
   | (rw [form_ok (ez.symm.trans h38) hb,exs5 q5])
   | (rw [form_ok (ez.symm.trans h38) hb,exs18 q18,h146,h153,Al_Bool_true_and,Al_Bool_true_and])
   | (rw [form_ok (ez.symm.trans h38) hb,exs18 q18,h146,h153];rfl)
   | (rw [form_ok (ez.symm.trans h38) hb,exs18 q18,h146];rfl)
   | (rw [form_ok (ez.symm.trans h38) hb,exsN q7 hlx q3 q5 q18])
 have q18:¬ op=18:=λe=>Al_of_decide_eq_false h138 (by rw [e];rfl);refine .sk<|.bN<|.tN<|.sr<|.az Z<|?_
 refine y9 Z Z λW s=>⟨?_,s.ext⟩
 first
  | (rw [form_bad (ez.symm.trans h38)])
  | (rw [form_bnd (by rw [bnd_w h39,Al_decide_eq_false (Al_of_decide_eq_true (by rw [h66] at ew;exact ew.symm))])])
  | (rw [form_bnd (by rw [bnd_a h39 h67,Al_decide_eq_false (Al_of_decide_eq_true (by rw [h92] at ea;exact ea.symm))])])
  | (rw [form_bnd (by rw [bnd_n h39 h67,Al_decide_eq_false (Al_of_decide_eq_true (by rw [h93] at en;exact en.symm))])])
  | (rw [form_ok (ez.symm.trans h38) hb,exs7 q7,h109,Al_Bool_true_and,all_frm])
  | (rw [form_ok (ez.symm.trans h38) hb,exs7 q7,h109];rfl)
  | (rw [form_ok (ez.symm.trans h38) hb,exsL q7 hlx])
  | (rw [form_ok (ez.symm.trans h38) hb,exs3 q3])
  | (rw [form_ok (ez.symm.trans h38) hb,exs5 q5])
  | (rw [form_ok (ez.symm.trans h38) hb,exs18 q18,h146,h153,Al_Bool_true_and,Al_Bool_true_and])
  | (rw [form_ok (ez.symm.trans h38) hb,exs18 q18,h146,h153];rfl)
  | (rw [form_ok (ez.symm.trans h38) hb,exs18 q18,h146];rfl)
  | (rw [form_ok (ez.symm.trans h38) hb,exsN q7 hlx q3 q5 q18])
theorem ex_count (op:UInt8) (nm:Str) (n:Int64) (args:List Ex):Ex.count (.mk op nm n args)=Ex.counts args+1:=by rw [Ex.count]
theorem fm_count (op:UInt8) (nm fd:Str) (a b:Int64) (ex:List Ex) (args:List Fm):Fm.count (.mk op nm fd a b ex args)=Ex.counts ex+Fm.counts args+1:=by rw [Fm.count]
theorem ex_counts_app:∀ (l m:List Ex),Ex.counts (l++m)=Ex.counts l+Ex.counts m
 | [],m=>by rw [Al_List_nil_append,Ex.counts,Al_Nat_zero_add]
 | e::l,m=>by rw [Al_List_cons_append,Ex.counts,Ex.counts,ex_counts_app l m,Al_Nat_add_assoc]
theorem fm_counts_app:∀ (l m:List Fm),Fm.counts (l++m)=Fm.counts l+Fm.counts m
 | [],m=>by rw [Al_List_nil_append,Fm.counts,Al_Nat_zero_add]
 | e::l,m=>by rw [Al_List_cons_append,Fm.counts,Fm.counts,fm_counts_app l m,Al_Nat_add_assoc]
theorem ex_pos (e:Ex):1<=e.count:=by obtain ⟨op,nm,n,args⟩:=e;rw [ex_count];omega
theorem fm_pos (f:Fm):1<=f.count:=by obtain ⟨op,nm,fd,a,b,ex,args⟩:=f;rw [fm_count];omega
theorem ex_len:∀ l:List Ex,l.length<=Ex.counts l
 | []=>Al_Nat_zero_le _
 | e::l=>by rw [Ex.counts,Al_List_length_cons];have:=ex_len l;have:=ex_pos e;omega
theorem fm_len':∀ l:List Fm,l.length<=Fm.counts l
 | []=>Al_Nat_zero_le _
 | e::l=>by rw [Fm.counts,Al_List_length_cons];have:=fm_len' l;have:=fm_pos e;omega
theorem ex_depth_le (e:Ex):e.depth<=e.count:=by
 induction e using Ex.ind with | _ op nm n args ih
 rw [depth_mk,ex_count]
 have:Ex.deeps args<=Ex.counts args:=by
  clear n nm op;induction args with
  | nil=>rw [Ex.deeps];exact Al_Nat_zero_le _
  | cons a r ih2 =>
   rw [Ex.deeps,Ex.counts];have h1:=ih a (Al_List_mem_cons_self ..);have h2:=ih2 λx hx=>ih x (Al_List_mem_cons_of_mem _ hx);omega
 omega
theorem ex_mem_count:∀ {l:List Ex} {e:Ex},e∈l->e.count<=Ex.counts l
 | a::r,e,h=>by
  rw [Ex.counts];rcases Al_List_mem_cons.1 h with rfl | h
  ·omega
  ·have:=ex_mem_count h;omega
theorem fm_mem_count:∀ {l:List Fm} {e:Fm},e∈l->e.count<=Fm.counts l
 | a::r,e,h=>by
  rw [Fm.counts];rcases Al_List_mem_cons.1 h with rfl | h
  ·omega
  ·have:=fm_mem_count h;omega
theorem fm_allsL (q:Fm->Bool):∀ l,Fm.alls q l=l.all (Fm.all q)
 | []=>rfl
 | f::r=>by rw [Fm.alls,Al_List_all_cons,fm_allsL q r]
theorem fm_allL (q:Fm->Bool) (op:UInt8) (nm fd:Str) (a b:Int64) (ex:List Ex) (args:List Fm):Fm.all q (.mk op nm fd a b ex args)=(q (.mk op nm fd a b ex args) && args.all (Fm.all q)):=by rw [Fm.all,fm_allsL]
theorem fm_all_true (f:Fm):Fm.all (λ_=>true) f=true:=by
 induction f using Fm.ind with | _ op nm fd a b ex args ih
 rw [fm_allL,Al_Bool_true_and];exact Al_List_all_eq_true.2 ih
def depB (f:Fm):Bool:=f.ex.all λe=>decide (e.depth<=1000000)
theorem fm_all_dep (f:Fm) (h:f.count<=1000000):Fm.all depB f=true:=by
 induction f using Fm.ind with | _ op nm fd a b ex args ih
 rw [fm_count] at h;rw [fm_allL,Al_Bool_and_eq_true];refine ⟨Al_List_all_eq_true.2 λe he=>Al_decide_eq_true ?_,Al_List_all_eq_true.2 λx hx=>ih x hx ?_⟩
 ·have h1:=ex_mem_count (l:=ex) he;have h2:=ex_depth_le e;omega
 ·have h1:=fm_mem_count hx;omega
def blE (N:Nat) (e:Ex):Bool:=Ex.all (λe=>decide (e.args.length<=N)) e
def blF (N:Nat) (f:Fm):Bool:=Fm.all (λf=>decide (f.ex.length<=N) && decide (f.args.length<=N) && f.ex.all (blE N)) f
theorem alls_allE (q:Ex->Bool):∀ l,Ex.alls q l=l.all (Ex.all q)
 | []=>rfl
 | e::r=>by rw [Ex.alls,Al_List_all_cons,alls_allE q r]
variable {N:Nat}
theorem blE_mk {op:UInt8} {nm:Str} {n:Int64} {args:List Ex} :blE N (.mk op nm n args)=true↔args.length<=N/\∀ a∈args,blE N a=true:=by
 unfold blE;rw [all_mk,alls_allE,Al_Bool_and_eq_true,Al_decide_eq_true_eq,Al_List_all_eq_true];rfl
theorem blF_mk {op:UInt8} {nm fd:Str} {b:Int64} {ex:List Ex} {args:List Fm} :blF N (.mk op nm fd a b ex args)=true↔(ex.length<=N/\args.length<=N/\∀ e∈ex,blE N e=true)/\∀ g∈args,blF N g=true:=by
 unfold blF;rw [fm_allL,Al_Bool_and_eq_true,Al_Bool_and_eq_true,Al_Bool_and_eq_true,Al_decide_eq_true_eq,Al_decide_eq_true_eq,Al_List_all_eq_true,Al_List_all_eq_true];exact ⟨λh=>⟨⟨h.1.1.1,h.1.1.2,h.1.2⟩,h.2⟩,λh=>⟨⟨⟨h.1.1,h.1.2.1⟩,h.1.2.2⟩,h.2⟩⟩
theorem Fx.row33:rowN prg 33=some (35,7,104):=by kernel_rfl
set_option maxHeartbeats 2000000 in
theorem count_any (H:Hp) (f:Fm) (most N:Nat) (hm:most<=9223372036854775807) (hb:blF N f=true) (hc:f.count<=9000000000000000000\/most<=1000000000000) (hN:N * (most+1)<=100000000000\/N * f.count<=100000000000) (hN1:N<=100000000000) (cs:List Value) (w:World) (h:Rep H (dFm .u8 f) cs) (hA:Agr H w):Calls prg 34 #[.agg cs.toArray,iN most] w λr w'=>r=.returned (iN (min f.count (most+1)))/\Ext w w':=by
 obtain ⟨op,nm,fd,a,b,ex,args⟩:=f;obtain ⟨p1,c1,p2,c2,rfl,hs1,hs2,hnm,hfd⟩:=fm_open h;refine Sx.enter (H:=H) func34 rfl ntmps34 rfl hA ?_;refine .sr<|.bx Z Z Z λb2=>.a Z Z<|.ns<|.a Z Z<|.ns<|.yw (.loadW Z Fx.agg35 Hm Z)<|.blR (z:=7) Z (Fx.bsl33_1 _ _ _ _ _ _ _) Z Z (by simp [maxLen]) λb13=>.aq Z<|.sq<|?_
 refine Sx.row0 76 4 ?_;refine .rg<|.aq Z<|.sq<|.bk<|.pm [1,0,2] [_,_,_] Z Z<|.lp (X:=Nat × List Fm × List Ex × Value × Value × List Value × List Value) [(1,_)] ⟨Z,Jt⟩ [] (λz=>[(5,iN z.1),(6,z.2.2.2.1),(7,z.2.2.2.2.1)]) (λz=>H) (λz=>[.row 35 7 z.2.2.2.1 z.2.1.length z.2.2.2.2.2.1,.row 76 4 z.2.2.2.2.1 z.2.2.1.length z.2.2.2.2.2.2,.box b2 [.int .u8 op.toNat,strV nm,strV fd,.int .i64 a.toInt,.int .i64 b.toInt,.slice p1 ex.length c1,.slice p2 args.length c2] 35]) (λz=>RepZ H 7 (z.2.1.map (dFm .u8)) z.2.2.2.2.2.1/\RepZ H 4 (z.2.2.1.map (dEx .u8)) z.2.2.2.2.2.2/\z.1+(Fm.counts z.2.1+Ex.counts z.2.2.1)=Fm.count (.mk op nm fd a b ex args)/\z.1<=most+1/\(∀ g∈z.2.1,blF N g=true)/\(∀ e∈z.2.2.1,blE N e=true)/\(z.2.1.length+z.2.2.1.length<=1+2 * (N * z.1))) (λz=>Fm.count (.mk op nm fd a b ex args) - z.1) (0,[Fm.mk op nm fd a b ex args],[],.slice (some ⟨b13,0,none⟩) 1 1,.slice none 0 0,[.int .u8 op.toNat,strV nm,strV fd,.int .i64 a.toInt,.int .i64 b.toInt,.slice p1 ex.length c1,.slice p2 args.length c2],[]) (λ_ s=>s) ⟨Z,Z,Z,Jt⟩ ⟨.single h Z,.nil,by rw [Fm.counts,Fm.counts,Ex.counts];omega,Al_Nat_zero_le _,λg hg=>by rw [Al_List_mem_singleton.1 hg];exact hb,λe he=>(by cases he),by simp⟩ λz hC=>?_
 obtain ⟨n,fs,ts,rf,rt,xf,xt⟩:=z;obtain ⟨zf,zt,hcnt,hn,hbf,hbt,hlen⟩:=hC;dsimp only at zf zt hcnt hn hbf hbt hlen|-;have hNn:N * n<=N * (most+1):=Al_Nat_mul_le_mul_left N hn;have hNc:N * n<=N * Fm.count (.mk op nm fd a b ex args):=Al_Nat_mul_le_mul_left N (by omega)
 have hNm:N * n<=100000000000:=by
  rcases hN with h | h <;> omega
 refine At.ra (size:=7) (r:=rf) (e:=35) Hm λpf cf e=>?_;subst e;refine At.ra (size:=4) (r:=rt) (e:=76) mem1 λpt ct e=>?_;subst e;refine .sq<|.sm Z<|.mv Z<|.yw (.leq Z Z)<|.mv Z<|.b2 (λh17=>?_) (λh17=>?_)
 ·have hle:n<=most:=by have:=Al_of_decide_eq_true h17;omega
  refine .gy (.move Z)<|.gy (.lenSl Fx.sl33 Z)<|.gy (.move Z)<|.gy (.lenSl Fx.sl32 Z)<|.gy (.add Z Z (c:=((fs.length+ts.length:Nat):Int)) ((w6 (by omega)).trans (by omega)))<|.gy (.gtr Z Z)<|.yw (.pickT Z Z)<|.nt<|.cd Z (λh24=>?_) (λh24=>?_)
  ·have hpos:0<fs.length+ts.length:=by have:=Al_of_decide_eq_true h24;omega
   replace h24:=hpos;refine .sk<|.tN<|.bk<|.sm Z<|.yw (.add Z Z (c:=((n+1:Nat):Int)) ((w6 (by omega)).trans (by omega)))<|.aq Z<|.sq<|.sm Z<|.yw (.lenSl Fx.sl32 Z)<|.yw (.sub Z Z (c:=(ts.length:Int) - 1) (w6 (by omega)))<|.a Z Z<|.ns<|.mv Z<|.yw (.geq Z Z)<|.nt<|.ce Z (λh31=>?_) (λh31=>?_)
   ·obtain ⟨ts0,e0,rfl⟩:∃ ts0 e0,ts=ts0++[e0]:=by
     rcases List.eq_nil_or_concat ts with h | ⟨t,x,h⟩
     ·subst h;exact (by simp at h31)
     ·exact ⟨t,x,by rw [h,List.concat_eq_append]⟩
    have hl0:(ts0++[e0]).length=ts0.length+1:=by rw [Al_List_length_append];rfl
    refine Sx.rowCase (size:=4) (r:=.slice pt (ts0++[e0]).length ct) (e:=76) mem1 (by rw [hl0];exact Nat.succ_pos _) λg c e hgc=>?_;injection e with e3 _ e4
    subst e3 e4;obtain ⟨cs0,r0,hc0,hx0⟩:=RepZ.at zt (i:=ts0.length) (d:=dEx .u8 e0) (by rw [Al_List_map_append,List.getElem?_append_right (by rw [Al_List_length_map];exact Al_Nat_le_refl _),Al_List_length_map,Al_Nat_sub_self];rfl);obtain ⟨op0,nm0,m0,args0⟩:=e0;obtain ⟨p0,c0,rfl,hs0,_⟩:=ex_open r0;have hb0:=(blE_mk.1 (hbt _ (Al_List_mem_append.2 (.inr (Al_List_mem_singleton.2 rfl)))))
    have hz0:RepZ H 4 (ts0.map (dEx .u8)) (xt.take (ts0.length * 4)):=by
     have h:=RepZ.take ts0.length zt;rw [Al_List_map_append,List.take_left' (by rw [Al_List_length_map])] at h;exact h
    rw [ex_counts_app,Ex.counts,Ex.counts,ex_count] at hcnt;rw [hl0] at hlen;have hNs:N * (n+1)=N * n+N:=Nat.mul_succ N n;refine .sm Z<|.mv Z<|.yw (.indexSl Fx.sl32 Z Z (i:=ts0.length) (by rw [hl0];omega) (by rw [hl0];omega) (q:=ts0.length * 4) (by omega))<|.yw (.loadR (vs:=[.int .u8 op0.toNat,strV nm0,.int .i64 m0.toInt,.slice p0 args0.length c0]) Z Fx.agg76 mem1 Z hx0)<|.al Fx.zero76 Z λb9=>.sX .head Z Z Fx.size76 Z<|?_
    refine Sx.At.rcut (size:=4) (m:=ts0.length) (ys:=xt.take (ts0.length * 4)) upd2 (by rw [hl0];exact Nat.le_succ _) rfl ?_;exact .nt<|.sq<|.fL 6 [(0,0),(1,0),(2,0),(3,0),(4,0),(5,3)]<|.mv Z<|.mv Z<|.yw (.cutHi Fx.sl32 Z Z (h:=ts0.length) (by rw [hl0];omega) (by rw [hl0] at hgc;omega) (λq e=>by cases e;rfl))<|.fA Z Fx.field76_3<|.lD Z Fx.agg32 Hm Z<|.apD Fx.row32 Z (λ_ _=>upd2) Z hs0 (by simp only [maxLen];omega) (by omega) Z (λ_ _=>(.d3<|.d2<|.nl)) λnews pN cN hzn=>.fn (tl:=[_]) Z<|.aq Z<|.ex<|.tE<|.bE<|.tN<|.ag (x:=(n,fs,ts0++[Ex.mk op0 nm0 m0 args0],Value.slice pf fs.length cf,Value.slice (some ⟨g,0,none⟩) (ts0++[Ex.mk op0 nm0 m0 args0]).length ct,xf,xt)) (n+1,fs,ts0++args0,Value.slice pf fs.length cf,Value.slice pN (ts0.length+args0.length) cN,xf,xt.take (ts0.length * 4)++news) ⟨Z,Z,Z,Jt⟩ ⟨Z,Jt⟩ (λ_ s=>by dsimp only;rw [Al_List_length_append];exact (s.pick [1,2,3] _ Z Z)) ⟨zf,by rw [Al_List_map_append];exact hz0.app hzn,by dsimp only;rw [ex_counts_app];omega,by dsimp only;omega,hbf,λe he=>by rcases Al_List_mem_append.1 he with h | h;exact hbt e (Al_List_mem_append.2 (.inl h));exact hb0.2 e h,by dsimp only;rw [Al_List_length_append,hNs];omega⟩ (by dsimp only;omega)
   have hts:ts=[]:=by
    cases ts with
    | nil=>rfl
    | cons t r=>simp at h31 <;> omega
   subst hts;obtain rfl:xt=[]:=zt
   obtain ⟨fs0,f0,rfl⟩:∃ fs0 f0,fs=fs0++[f0]:=by
    rcases List.eq_nil_or_concat fs with h | ⟨t,x,h⟩
    ·subst h;simp at h24
    ·exact ⟨t,x,by rw [h,List.concat_eq_append]⟩
   have hl0:(fs0++[f0]).length=fs0.length+1:=by rw [Al_List_length_append];rfl
   refine Sx.rowCase (size:=7) (r:=.slice pf (fs0++[f0]).length cf) (e:=35) Hm (by rw [hl0];exact Nat.succ_pos _) λg c e hgc=>?_;injection e with e3 _ e4
   subst e3 e4;obtain ⟨cs0,r0,hc0,hx0⟩:=RepZ.at zf (i:=fs0.length) (d:=dFm .u8 f0) (by rw [Al_List_map_append,List.getElem?_append_right (by rw [Al_List_length_map];exact Al_Nat_le_refl _),Al_List_length_map,Al_Nat_sub_self];rfl);obtain ⟨op0,nm0,fd0,a0,b0,ex0,args0⟩:=f0;obtain ⟨q1,d1,q2,d2,rfl,hs0,hs3,_,_⟩:=fm_open r0;have hb0:=(blF_mk.1 (hbf _ (Al_List_mem_append.2 (.inr (Al_List_mem_singleton.2 rfl)))))
   have hz0:RepZ H 7 (fs0.map (dFm .u8)) (xf.take (fs0.length * 7)):=by
    have h:=RepZ.take fs0.length zf;rw [Al_List_map_append,List.take_left' (by rw [Al_List_length_map])] at h;exact h
   rw [fm_counts_app,Fm.counts,Fm.counts,fm_count] at hcnt;rw [hl0] at hlen;have hNs:N * (n+1)=N * n+N:=Nat.mul_succ N n;refine .sk<|.tN<|.sm Z<|.yw (.lenSl Fx.sl33 Z)<|.yw (.sub Z Z (c:=((fs0.length:Nat):Int)) (by rw [hl0];exact (w6 (by omega)).trans (by omega)))<|.a Z Z<|.ns<|.mv Z<|.mv Z<|.yw (.indexSl Fx.sl33 Z Z (i:=fs0.length) Z (by rw [hl0];omega) (q:=fs0.length * 7) (by omega))<|.yw (.loadR (vs:=cFm .u8 op0 nm0 fd0 a0 b0 (.slice q1 ex0.length d1) (.slice q2 args0.length d2)) Z Fx.agg35 Hm Z hx0)<|.al Fx.zero35 Z λb11=>.sX .head Z Z Fx.size35 Z<|?_
   refine Sx.At.rcut (size:=7) (m:=fs0.length) (ys:=xf.take (fs0.length * 7)) upd1 (by rw [hl0];exact Nat.le_succ _) rfl ?_;refine .nt<|.sq<|.fL 6 [(0,0),(1,0),(2,0),(3,0),(4,0),(5,3)]<|.mv Z<|.mv Z<|.yw (.cutHi Fx.sl33 Z Z (h:=fs0.length) Z (by rw [hl0] at hgc;omega) (λq e=>by cases e;rfl))<|.fA Z Fx.field35_6<|.lD Z Fx.agg33 Hm Z<|.apD Fx.row33 Z (λ_ _=>upd1) Z hs3 (by simp only [maxLen];omega) (by omega) Z (λ_ _=>(.d3<|.d2<|.nl)) λnews pN cN hzn=>.fn (tl:=[_]) Z<|.aq Z<|.rg<|.mv Z<|.fA Z Fx.field35_5<|.lD Z Fx.agg32 Hm Z<|.apD Fx.row32 Z (λ_ _=>upd2) Z hs0 (by simp only [maxLen];omega) (by simp only [Al_List_length_nil];omega) Z λnews2 r2 hzn2=>?_
   rw [show ([]:List Ex).length+ex0.length=ex0.length from Al_Nat_zero_add _];exact .a Z Z<|.nl<|.bN<|.tN<|.ag (x:=(n,fs0++[Fm.mk op0 nm0 fd0 a0 b0 ex0 args0],([]:List Ex),Value.slice (some ⟨g,0,none⟩) (fs0++[Fm.mk op0 nm0 fd0 a0 b0 ex0 args0]).length cf,Value.slice pt 0 ct,xf,([]:List Value))) (n+1,fs0++args0,ex0,Value.slice pN (fs0.length+args0.length) cN,r2,xf.take (fs0.length * 7)++news,news2) ⟨Z,Z,Z,Jt⟩ ⟨Z,Jt⟩ (λ_ s=>by dsimp only;rw [Al_List_length_append];exact (s.pick [1,2,3] _ Z Z)) ⟨by rw [Al_List_map_append];exact hz0.app hzn,hzn2,by dsimp only;rw [fm_counts_app];rw [Ex.counts] at hcnt;omega,by dsimp only;omega,λe he=>by rcases Al_List_mem_append.1 he with h | h;exact hbf e (Al_List_mem_append.2 (.inl h));exact hb0.2 e h,λe he=>hb0.1.2.2 e he,by dsimp only;rw [Al_List_length_append,hNs];simp only [Al_List_length_nil] at hlen;omega⟩ (by dsimp only;omega)
  have hz24:¬ 0<fs.length+ts.length:=λe=>Al_of_decide_eq_false h24 (by omega);refine .ex<|.eb<|.sm Z<|.az Z<|?_
  refine y9 Z Z λW s=>⟨?_,s.ext⟩
  first
   | (rw [show n=min (Fm.count (.mk op nm fd a b ex args)) (most+1) by omega])
   | (rw [show n=min (Fm.count (.mk op nm fd a b ex args)) (most+1) from by (have h1:fs=[]:=Al_List_eq_nil_of_length_eq_zero (by omega));(have h2:ts=[]:=Al_List_eq_nil_of_length_eq_zero (by omega));subst h1;subst h2;rw [Fm.counts,Ex.counts] at hcnt;omega])
 have hgt:¬ n<=most:=λe=>Al_of_decide_eq_false h17 (by omega);refine .gG<|.gG<|.gG<|.gG<|.gG<|.gG<|.yw (.pickF Z Z)<|.nt<|.cF Z<|.ex<|.eb<|.sm Z<|.az Z<|?_
 refine y9 Z Z λW s=>⟨?_,s.ext⟩
 first
  | (rw [show n=min (Fm.count (.mk op nm fd a b ex args)) (most+1) by omega])
  | (rw [show n=min (Fm.count (.mk op nm fd a b ex args)) (most+1) from by (have h1:fs=[]:=Al_List_eq_nil_of_length_eq_zero (by omega));(have h2:ts=[]:=Al_List_eq_nil_of_length_eq_zero (by omega));subst h1;subst h2;rw [Fm.counts,Ex.counts] at hcnt;omega])
theorem Fx.call34:callN prg 34=true:=by kernel_rfl
theorem Fx.call36:callN prg 36=true:=by kernel_rfl
theorem Fx.call37:callN prg 37=true:=by kernel_rfl
theorem Fx.call38:callN prg 38=true:=by kernel_rfl
variable {f:Fm}
theorem fck1 (h:60<f.count):fcheck f=3:=by unfold fcheck;rw [Al_if_pos (.inl h)]
theorem fck2 (h:Fm.all shalB f=false):fcheck f=3:=by unfold fcheck;rw [Al_if_pos (.inr h)]
theorem fck0 (h:¬ 60<f.count) (h2:Fm.all shalB f=true):¬ (60<f.count\/Fm.all shalB f=false):=λe=>by
 rcases e with e | e
 ·exact h e
 ·rw [h2] at e;cases e
theorem fck3 (h:¬ 60<f.count) (h2:Fm.all shalB f=true) (h3:Fm.all namdB f=false):fcheck f=9:=by unfold fcheck;rw [Al_if_neg (fck0 h h2),Al_if_pos h3]
theorem fck4 (h:¬ 60<f.count) (h2:Fm.all shalB f=true) (h3:Fm.all namdB f=true) (h4:Fm.all formB f=false):fcheck f=6:=by unfold fcheck;rw [Al_if_neg (fck0 h h2),Al_if_neg (by rw [h3];decide),Al_if_pos h4]
theorem fck5 (h:¬ 60<f.count) (h2:Fm.all shalB f=true) (h3:Fm.all namdB f=true) (h4:Fm.all formB f=true):fcheck f=0:=by unfold fcheck;rw [Al_if_neg (fck0 h h2),Al_if_neg (by rw [h3];decide),Al_if_neg (by rw [h4];decide)]
theorem fcheck_any (H:Hp) (G:Gl H) (Gt:Gf H) (f:Fm) (hb:blF 600000 f=true) (cs:List Value) (w:World) (h:Rep H (dFm .u8 f) cs) (hA:Agr H w):Calls prg 15 #[.agg cs.toArray] w λr w'=>r=.returned (iN (fcheck f))/\Ext w w':=by
 obtain ⟨op,nm,fd,a,b,ex,args⟩:=f;obtain ⟨p1,c1,p2,c2,rfl,hs1,hs2,hnm,hfd⟩:=fm_open h;refine Sx.enter (H:=H) func15 rfl ntmps15 rfl hA ?_;refine .sr<|.bx Z Z Z λb1=>.aq Z<|.sq<|.bk<|.sq<|.sr<|.yw (.loadW Z Fx.agg35 Hm Z)<|.yw (.call Fx.call34 Z (λW s=>count_any H (.mk op nm fd a b ex args) 60 600000 (by decide) hb (.inr (by decide)) (.inl (by decide)) (by decide) _ W h s.agr))<|.yw (.gtr Z Z)<|.aq Z<|.cr Z (λh3=>?_) (λh3=>?_)
 ·have hc:60<Fm.count (.mk op nm fd a b ex args):=by have:=Al_of_decide_eq_true h3;omega
  refine .sk<|.tN<|.cT Z<|.sr<|.az Z<|.bR<|.tR<|?_
  refine y9 Z Z λW s=>⟨?_,s.ext⟩
  first
   | (rw [fck1 hc];rfl)
   | (rw [fck2 hs];rfl)
   | (rw [fck3 hc hs hn];rfl)
   | (rw [fck4 hc hs hn hf];rfl)
   | (rw [fck5 hc hs hn hf];rfl)
 have hc:¬ 60<Fm.count (.mk op nm fd a b ex args):=λe=>Al_of_decide_eq_false h3 (by omega);refine .rg<|.yw (.loadW Z Fx.agg35 Hm Z)<|.yw (.call Fx.call35 Z (λW s=>every_any H 36 shalB depB Fx.call36 (λf hp=>shallow_any H f hp) _ (fm_all_dep _ (by omega)) _ W h s.agr))<|.yw (.not Z)<|.aq Z<|.cr Z (λh3=>?_) (λh3=>?_)
 ·have hs:Fm.all shalB (.mk op nm fd a b ex args)=false:=by simpa using h3
  refine .sr<|.az Z<|.bR<|.tR<|?_
  refine y9 Z Z λW s=>⟨?_,s.ext⟩
  first
   | (rw [fck1 hc];rfl)
   | (rw [fck2 hs];rfl)
   | (rw [fck3 hc hs hn];rfl)
   | (rw [fck4 hc hs hn hf];rfl)
   | (rw [fck5 hc hs hn hf];rfl)
 have hs:Fm.all shalB (.mk op nm fd a b ex args)=true:=by simpa using h3
 refine .sr<|.yw (.loadW Z Fx.agg35 Hm Z)<|.yw (.call Fx.call35 Z (λW s=>every_any H 37 namdB (λ_=>true) Fx.call37 (λf _=>named_any H G Gt f) _ (fm_all_true _) _ W h s.agr))<|.yw (.not Z)<|.aq Z<|.cd Z (λh10=>?_) (λh10=>?_)
 ·have hn:Fm.all namdB (.mk op nm fd a b ex args)=false:=by simpa using h10
  refine .sr<|.az Z<|.bR<|.tR<|?_
  refine y9 Z Z λW s=>⟨?_,s.ext⟩
  first
   | (rw [fck1 hc];rfl)
   | (rw [fck2 hs];rfl)
   | (rw [fck3 hc hs hn];rfl)
   | (rw [fck4 hc hs hn hf];rfl)
   | (rw [fck5 hc hs hn hf];rfl)
 have hn:Fm.all namdB (.mk op nm fd a b ex args)=true:=by simpa using h10
 refine .sr<|.yw (.loadW Z Fx.agg35 Hm Z)<|.yw (.call Fx.call35 Z (λW s=>every_any H 38 formB (λ_=>true) Fx.call38 (λf _=>formed_any H Gt f) _ (fm_all_true _) _ W h s.agr))<|.yw (.not Z)<|.aq Z<|.cd Z (λh14=>?_) (λh14=>?_)
 ·have hf:Fm.all formB (.mk op nm fd a b ex args)=false:=by simpa using h14
  refine .sr<|.az Z<|.bR<|.tR<|?_
  refine y9 Z Z λW s=>⟨?_,s.ext⟩
  first
   | (rw [fck1 hc];rfl)
   | (rw [fck2 hs];rfl)
   | (rw [fck3 hc hs hn];rfl)
   | (rw [fck4 hc hs hn hf];rfl)
   | (rw [fck5 hc hs hn hf];rfl)
 have hf:Fm.all formB (.mk op nm fd a b ex args)=true:=by simpa using h14
 refine .sk<|.bN<|.tN<|.sr<|.az Z<|?_
 refine y9 Z Z λW s=>⟨?_,s.ext⟩
 first
  | (rw [fck1 hc];rfl)
  | (rw [fck2 hs];rfl)
  | (rw [fck3 hc hs hn];rfl)
  | (rw [fck4 hc hs hn hf];rfl)
  | (rw [fck5 hc hs hn hf];rfl)
noncomputable def eqP (p:Prop):Bool:=@decide p (Classical.propDecidable p)
theorem eqP_iff {p:Prop} :eqP p=true↔p:=by unfold eqP;exact @decide_eq_true_iff p (Classical.propDecidable p)
theorem eqP_false {p:Prop} :eqP p=false↔¬ p:=⟨λh k=>(by rw [eqP_iff.2 k] at h;cases h),λh=>(by cases e:eqP p with | false=>rfl | true=>exact absurd (eqP_iff.1 e) h)⟩
def EqAt (gf:FuncId) {α:Type} (d:α->D) (H:Hp) (a b:α):Prop:=∀ (ca cb:List Value) (w:World),Rep H (d a) ca->Rep H (d b) cb->Agr H w->Calls prg gf #[.agg ca.toArray,.agg cb.toArray] w λr w'=>r=.returned (.bool (eqP (a=b)))/\Ext w w'
theorem take_eq_succ {α:Type} {l m:List α} (h:k<l.length) (h2:k<m.length) (ht:l.take k=m.take k) (he:l[k]=m[k]):l.take (k+1)=m.take (k+1):=by rw [take_snoc h,take_snoc h2,ht,he]
theorem eqFuncE (H:Hp) (gf:FuncId) (hgf:callN prg gf=true) (l m:List Ex) (hq:∀ a∈l,∀ b,EqAt gf (dEx .u8) H a b) (v u:Value) (hs:Rep H (.seq 4 (l.map (dEx .u8))) [v]) (ht:Rep H (.seq 4 (m.map (dEx .u8))) [u]) (w:World) (hA:Agr H w) :
 Calls prg 51 #[v,u,.func (.func gf) #[] #[]] w λr w'=>r=.returned (.bool (eqP (l=m)))/\Ext w w':=by
 obtain ⟨p,c,e,_⟩:=hs.sl;simp only [Al_List_cons_injEq,Al_and_true,Al_List_length_map] at e;subst e;obtain ⟨p2,c2,e,_⟩:=ht.sl;simp only [Al_List_cons_injEq,Al_and_true,Al_List_length_map] at e;subst e;have hcap:=hs.cap;have hcap2:=ht.cap;refine Sx.enter (H:=H) func51 rfl ntmps51 rfl hA ?_;refine .sr<|.aq Z<|.sq<|.sm Z<|.yw (.lenSl Fx.sl32 Z)<|.mv Z<|.yw (.lenSl Fx.sl32 Z)<|.yw (.neq Z Z)<|.nt<|.ce Z (λh14=>?_) (λh14=>?_)
 ·have hne:¬ l=m:=λe=>by rw [e] at h14;exact h14 rfl
  refine .sr<|.az Z<|.tR<|?_
  refine y9 Z Z λW s=>⟨retB ?_,s.ext⟩
  first
   | (rw [eqP_iff];exact ⟨λh=>(by cases h),λh=>absurd h hne⟩)
   | (rw [eqP_iff];exact ⟨λ_=>heq,λ_=>rfl⟩)
 have hlen:l.length=m.length:=by omega
 refine .sk<|.tN<|.sq<|.sm Z<|.yw (.lenSl Fx.sl32 Z)<|.mv Z<|.nt<|.bk<|.lp (X:=Nat) [(1,_),(2,_),(15,_),(16,_)] ⟨Z,Z,Z,Z,Jt⟩ [] (λk=>[(17,iN k)]) (λk=>H) (λk=>[]) (λk=>k<=l.length/\l.take k=m.take k) (λk=>l.length - k) 0 (λ_ s=>s) ⟨Z,Jt⟩ ⟨by omega,Z⟩ λk hC=>?_
 obtain ⟨hk0,hal⟩:=hC;refine .sr<|.yw (.lss Z Z)<|.nt<|.sq<|.ce Z (λh18=>?_) (λh18=>?_)
 ·have hk:k<l.length:=by omega
  have hkm:k<m.length:=by omega
  obtain ⟨bE,oE,cE,hpE,rE,lE,mE⟩:=hs.elem (map_at hk);cases hpE;obtain ⟨bF,oF,cF,hpF,rF,lF,mF⟩:=ht.elem (map_at hkm);cases hpF;refine .sk<|.tN<|.sq<|.bk<|.sm Z<|.yw (.indexSl Fx.sl32 Z Z Z (by omega) (q:=oE+k * 4) Z)<|.yw (.loadMW Z Fx.agg76 mE lE)<|.al Fx.zero76 Z λb8=>.a Z Z<|.sV .head Z Z Fx.size76 lE rE.one Z<|.ns<|.mv Z<|.mv Z<|.yw (.indexSl Fx.sl32 Z Z Z (by omega) (q:=oF+k * 4) Z)<|.yw (.loadMW Z Fx.agg76 mF lF)<|.al Fx.zero76 Z λb9=>.sV .head Z Z Fx.size76 lF rF.one Z<|.ns<|.mv Z<|.yw (.loadW Z Fx.agg76 mem1 lE)<|.yw (.loadW Z Fx.agg76 Hm lF)<|.yw (.callV (fi:=[]) (ca:=[]) Z hgf Z (λW s=>hq _ (Al_List_getElem_mem hk) _ cE cF W rE rF s.agr))<|.yw (.not Z)<|.nt<|.cd Z (λh30=>?_) (λh30=>?_)
  ·try simp only [dt] at h30
   have hne:¬ l=m:=λe=>by subst e;rw [eqP_iff.2 rfl] at h30;cases h30
   refine .sr<|.az Z<|.bR<|.tR<|.tR<|.bR<|.tR<|?_
   refine y9 Z Z λW s=>⟨retB ?_,s.ext⟩
   first
    | (rw [eqP_iff];exact ⟨λh=>(by cases h),λh=>absurd h hne⟩)
    | (rw [eqP_iff];exact ⟨λ_=>heq,λ_=>rfl⟩)
  try simp only [df] at h30
  have heq:l[k]=m[k]:=eqP_iff.1 (by simpa using h30);exact .sk<|.bN<|.tN<|.rg<|.yw (.add Z Z w7)<|.mv Z<|.nt<|.ag (k+1) ⟨Z,Jt⟩ ⟨Z,Z,Z,Z,Jt⟩ (λ_ s=>s.pick [] [] Z Z) ⟨by omega,take_eq_succ hk hkm hal heq⟩ (by omega)
 have heq:l=m:=by
  have e:k=l.length:=by omega
  have e2:k=m.length:=by omega
  have h1:=hal;rw [e,Al_List_take_length,hlen,Al_List_take_length] at h1;exact h1
 refine .ex<|.eb<|.sr<|.az Z<|?_
 refine y9 Z Z λW s=>⟨retB ?_,s.ext⟩
 first
  | (rw [eqP_iff];exact ⟨λh=>(by cases h),λh=>absurd h hne⟩)
  | (rw [eqP_iff];exact ⟨λ_=>heq,λ_=>rfl⟩)
theorem equalExpr_any (H:Hp) (a:Ex):∀ b,EqAt 52 (dEx .u8) H a b:=by
 induction a using Ex.ind with | _ op nm n args ih
 intro b ca cb w ha hb hA;obtain ⟨op2,nm2,n2,args2⟩:=b;obtain ⟨p,c,rfl,hs,hnm⟩:=ex_open ha;obtain ⟨p2,c2,rfl,hs2,hnm2⟩:=ex_open hb;refine Sx.enter (H:=H) func52 rfl ntmps52 rfl hA ?_;refine .sr<|.bx Z Z Z λb2=>.bx Z Z Z λb3=>.a Z Z<|.ns<|.fA Z Fx.field76_0<|.lD Z Fx.agg74 mem1 Z<|.fA Z Fx.field76_0<|.lD Z Fx.agg74 Hm Z<|.yw (.eql Z Z)<|.mv Z<|.e2 (λh10=>?_) (λh10=>?_)
 ·have e1:op=op2:=Al_UInt8_toNat_inj.1 (by omega);refine .gy (.fieldAddr Z Fx.field76_1)<|.gy (.load Z Fx.agg9 mem1 Z)<|.gy (.fieldAddr Z Fx.field76_1)<|.gy (.load Z Fx.agg9 Hm Z)<|.gy (.eqS Z Z)<|.yw (.pickT Z Z)<|.mv Z<|.e2 (λh17=>?_) (λh17=>?_)
  ·have e2:nm=nm2:=h17;refine .gy (.fieldAddr Z Fx.field76_2)<|.gy (.load Z Fx.agg2 mem1 Z)<|.gy (.fieldAddr Z Fx.field76_2)<|.gy (.load Z Fx.agg2 Hm Z)<|.gy (.eql Z Z)<|.yw (.pickT Z Z)<|.mv Z<|.e2 (λh24=>?_) (λh24=>?_)
   ·have e3:n=n2:=Al_Int64_toInt_inj.1 h24;refine .gy (.fieldAddr Z Fx.field76_3)<|.gy (.load Z Fx.agg32 mem1 Z)<|.gy (.fieldAddr Z Fx.field76_3)<|.gy (.load Z Fx.agg32 Hm Z)<|.gy (.call Fx.call51 Z (λW s=>eqFuncE H 52 Fx.call52 args args2 ih _ _ hs hs2 W s.agr))<|.yw (.pickT Z Z)<|.az Z<|?_
    refine y9 Z Z λW s=>⟨retB ?_,s.ext⟩
    first
     | (rw [eqP_iff,eqP_iff,Ex.mk.injEq];exact ⟨λd=>⟨e1,e2,e3,d⟩,λh=>h.2.2.2⟩)
     | (rw [eqP_iff,Ex.mk.injEq];exact ⟨λh=>(by cases h),λh=>absurd h.1 e1⟩)
     | (rw [eqP_iff,Ex.mk.injEq];exact ⟨λh=>(by cases h),λh=>absurd h.2.1 e2⟩)
     | (rw [eqP_iff,Ex.mk.injEq];exact ⟨λh=>(by cases h),λh=>absurd h.2.2.1 e3⟩)
   have e3:¬ n=n2:=λe=>h24 (by rw [e]);refine .gG<|.gG<|.gG<|.gG<|.gG<|.yw (.pickF Z Z)<|.az Z<|?_
   refine y9 Z Z λW s=>⟨retB ?_,s.ext⟩
   first
    | (rw [eqP_iff,eqP_iff,Ex.mk.injEq];exact ⟨λd=>⟨e1,e2,e3,d⟩,λh=>h.2.2.2⟩)
    | (rw [eqP_iff,Ex.mk.injEq];exact ⟨λh=>(by cases h),λh=>absurd h.1 e1⟩)
    | (rw [eqP_iff,Ex.mk.injEq];exact ⟨λh=>(by cases h),λh=>absurd h.2.1 e2⟩)
    | (rw [eqP_iff,Ex.mk.injEq];exact ⟨λh=>(by cases h),λh=>absurd h.2.2.1 e3⟩)
  have e2:¬ nm=nm2:=h17;refine .gG<|.gG<|.gG<|.gG<|.gG<|.yw (.pickF Z Z)<|.mv Z<|.gG<|.gG<|.gG<|.gG<|.gG<|.yw (.pickF Z Z)<|.az Z<|?_
  refine y9 Z Z λW s=>⟨retB ?_,s.ext⟩
  first
   | (rw [eqP_iff,eqP_iff,Ex.mk.injEq];exact ⟨λd=>⟨e1,e2,e3,d⟩,λh=>h.2.2.2⟩)
   | (rw [eqP_iff,Ex.mk.injEq];exact ⟨λh=>(by cases h),λh=>absurd h.1 e1⟩)
   | (rw [eqP_iff,Ex.mk.injEq];exact ⟨λh=>(by cases h),λh=>absurd h.2.1 e2⟩)
   | (rw [eqP_iff,Ex.mk.injEq];exact ⟨λh=>(by cases h),λh=>absurd h.2.2.1 e3⟩)
 have e1:¬ op=op2:=λe=>h10 (by rw [e]);refine .gG<|.gG<|.gG<|.gG<|.gG<|.yw (.pickF Z Z)<|.mv Z<|.gG<|.gG<|.gG<|.gG<|.gG<|.yw (.pickF Z Z)<|.mv Z<|.gG<|.gG<|.gG<|.gG<|.gG<|.yw (.pickF Z Z)<|.az Z<|?_
 refine y9 Z Z λW s=>⟨retB ?_,s.ext⟩
 first
  | (rw [eqP_iff,eqP_iff,Ex.mk.injEq];exact ⟨λd=>⟨e1,e2,e3,d⟩,λh=>h.2.2.2⟩)
  | (rw [eqP_iff,Ex.mk.injEq];exact ⟨λh=>(by cases h),λh=>absurd h.1 e1⟩)
  | (rw [eqP_iff,Ex.mk.injEq];exact ⟨λh=>(by cases h),λh=>absurd h.2.1 e2⟩)
  | (rw [eqP_iff,Ex.mk.injEq];exact ⟨λh=>(by cases h),λh=>absurd h.2.2.1 e3⟩)
theorem Fx.call96:callN prg 96=true:=by kernel_rfl
theorem Fx.call147:callN prg 147=true:=by kernel_rfl
theorem Fx.call149:callN prg 149=true:=by kernel_rfl
theorem Fx.bld108_0_1_2 (x0:Int) (x1:ByteArray) (x2:Int):buildN prg 108 [(0,.int .u8 x0),(1,.string x1),(2,.int .i64 x2)]=some [.int .u8 x0,.string x1,.int .i64 x2]:=by kernel_rfl
theorem Fx.agg94:aggN prg 94=some none:=by kernel_rfl
theorem Fx.call15:callN prg 15=true:=by kernel_rfl
theorem Fx.call54:callN prg 54=true:=by kernel_rfl
theorem Fx.call55:callN prg 55=true:=by kernel_rfl
theorem Fx.call56:callN prg 56=true:=by kernel_rfl
theorem Fx.call95:callN prg 95=true:=by kernel_rfl
theorem Fx.row99:rowN prg 99=some (108,3,32):=by kernel_rfl
theorem Fx.size94:sizeN prg 94=some 1:=by kernel_rfl
theorem Fx.size99:sizeN prg 99=some 1:=by kernel_rfl
theorem Fx.zero94:zeroN prg 94=some [Go.Value.pointer none]:=by kernel_rfl
theorem Fx.bld102_2 (x2p:Option Addr) (x2n x2c:Nat):buildN prg 102 [(2,.slice x2p x2n x2c)]=some [.slice none 0 0,.int .i64 0,.slice x2p x2n x2c,.slice none 0 0,.bool false,.bool false,.bool false,.int .i64 0,.int .i64 0]:=by kernel_rfl
theorem Fx.bld108_2 (x2:Int):buildN prg 108 [(2,.int .i64 x2)]=some [.int .u8 0,.string ⟨#[]⟩,.int .i64 x2]:=by kernel_rfl
theorem Fx.bld35  : buildN prg 35 []=some [.int .u8 0,.string ⟨#[]⟩,.string ⟨#[]⟩,.int .i64 0,.int .i64 0,.slice none 0 0,.slice none 0 0]:=by kernel_rfl
theorem Fx.bsl99_1 (x00 x01 x02:Value):bslN prg 99 1 [(0,.agg [x00,x01,x02].toArray)]=some (108,[x00,x01,x02]):=by kernel_rfl
theorem Fx.call89:callN prg 89=true:=by kernel_rfl
theorem Fx.call138:callN prg 138=true:=by kernel_rfl
theorem Fx.call139:callN prg 139=true:=by kernel_rfl
theorem Fx.call140:callN prg 140=true:=by kernel_rfl
theorem Fx.call48:callN prg 48=true:=by kernel_rfl
theorem Fx.call144:callN prg 144=true:=by kernel_rfl
theorem Fx.arr163:arrN prg 163=some (19,1):=by kernel_rfl
theorem Fx.call90:callN prg 90=true:=by kernel_rfl
theorem Fx.call91:callN prg 91=true:=by kernel_rfl
theorem Fx.call92:callN prg 92=true:=by kernel_rfl
theorem Fx.call93:callN prg 93=true:=by kernel_rfl
theorem Fx.call19:callN prg 19=true:=by kernel_rfl
theorem Fx.call26:callN prg 26=true:=by kernel_rfl
theorem Fx.call13:callN prg 13=true:=by kernel_rfl
theorem snocF_eq {fs gs:List Fm} {op0 op1:UInt8} {nm0 nm1 fd0 fd1:Str} {a0 a1 b0 b1:Int64} {ex0 ex1:List Ex} {args0 args1:List Fm} :fs++[Fm.mk op0 nm0 fd0 a0 b0 ex0 args0]=gs++[Fm.mk op1 nm1 fd1 a1 b1 ex1 args1]↔fs=gs/\op0=op1/\nm0=nm1/\fd0=fd1/\a0=a1/\b0=b1/\ex0=ex1/\args0=args1:=by
 rw [<-List.concat_eq_append,<-List.concat_eq_append]
 constructor
 ·intro h;have h1:=List.init_eq_of_concat_eq h;have h2:=List.last_eq_of_concat_eq h;injection h2 with i1 i2 i3 i4 i5 i6 i7
  exact ⟨h1,i1,i2,i3,i4,i5,i6,i7⟩
 ·rintro ⟨rfl,rfl,rfl,rfl,rfl,rfl,rfl,rfl⟩;rfl
theorem snocF_app {fs gs:List Fm} {op0 op1:UInt8} {nm0 nm1 fd0 fd1:Str} {a0 a1 b0 b1:Int64} {ex0 ex1:List Ex} {args0 args1:List Fm} (e1:op0=op1) (e2:nm0=nm1) (e3:fd0=fd1) (e4:a0=a1) (e5:b0=b1) (e6:args0.length=args1.length) (e7:ex0=ex1) (hl:fs.length+1=gs.length+1):fs++[Fm.mk op0 nm0 fd0 a0 b0 ex0 args0]=gs++[Fm.mk op1 nm1 fd1 a1 b1 ex1 args1]↔fs++args0=gs++args1:=by
 rw [snocF_eq]
 constructor
 ·rintro ⟨rfl,_,_,_,_,_,_,rfl⟩;rfl
 ·intro h;obtain ⟨h1,h2⟩:=List.append_inj h (by omega);exact ⟨h1,e1,e2,e3,e4,e5,e7,h2⟩
set_option maxHeartbeats 2000000 in
theorem fequal_any (H:Hp) (f g:Fm) (N:Nat) (hb:blF N f=true) (hN:N * f.count<=100000000000) (hN1:N<=100000000000) (cs ds:List Value) (w:World) (h:Rep H (dFm .u8 f) cs) (k:Rep H (dFm .u8 g) ds) (hA:Agr H w):Calls prg 24 #[.agg cs.toArray,.agg ds.toArray] w λr w'=>r=.returned (.bool (eqP (f=g)))/\Ext w w':=by
 obtain ⟨op,nm,fd,a,b,ex,args⟩:=f;obtain ⟨opb,nmb,fdb,ab,bb,exb,argsb⟩:=g;obtain ⟨p1,c1,p2,c2,rfl,_,_,_,_⟩:=fm_open h;obtain ⟨p3,c3,p4,c4,rfl,_,_,_,_⟩:=fm_open k;refine Sx.enter (H:=H) func24 rfl ntmps24 rfl hA ?_;refine .sr<|.bx Z Z Z λb2=>.bx Z Z Z λb3=>.aq Z<|.sq<|.ft (p:=.light _ _ (.light _ _ (.alt _ _ _ (.light _ _ (.alt _ _ _ (.done) (.no))) (.alt _ _ _ (.alt _ _ _ (.light _ _ (.done)) (.no)) (.no))))) 5 (.light 0 (.light 2 (.alt 1 0 (.light 4 (.alt 3 0 (.done) (.no))) (.alt 3 0 (.alt 1 0 (.light 4 (.done)) (.no)) (.no))))) (by kernel_rfl) (by kernel_rfl) Z<|.yw (.loadW Z Fx.agg35 mem1 Z)<|.yw (.loadW Z Fx.agg35 Hm Z)<|.h ?_ (.h ?_ .nn)
 ·
  refine .blR (z:=7) Z (Fx.bsl33_1 _ _ _ _ _ _ _) Z Z (by simp [maxLen]) λb11=>.a Z Z<|.h1<|.blR (z:=7) Z (Fx.bsl33_1 _ _ _ _ _ _ _) Z Z (by simp [maxLen]) λb13=>.fn (tl:=[_]) Z<|.aq Z<|.sq<|.sr<|.aq Z<|.bk<|.pm [1,0,2,3] [_,_,_,_] Z Z<|.lp (X:=Nat × List Fm × List Fm × Value × Value × List Value × List Value) [] trivial [_,_] (λz=>[(5,z.2.2.2.1),(6,z.2.2.2.2.1),(7,.int .i64 ((z.2.1.length:Int) - 1))]) (λz=>H) (λz=>[.row 35 7 z.2.2.2.1 z.2.1.length z.2.2.2.2.2.1,.row 35 7 z.2.2.2.2.1 z.2.2.1.length z.2.2.2.2.2.2]) (λz=>RepZ H 7 (z.2.1.map (dFm .u8)) z.2.2.2.2.2.1/\RepZ H 7 (z.2.2.1.map (dFm .u8)) z.2.2.2.2.2.2/\z.2.1.length=z.2.2.1.length/\z.1+Fm.counts z.2.1<=Fm.count (.mk op nm fd a b ex args)/\(∀ g∈z.2.1,blF N g=true)/\z.2.1.length<=1+N * z.1/\(Fm.mk op nm fd a b ex args=Fm.mk opb nmb fdb ab bb exb argsb↔z.2.1=z.2.2.1)) (λz=>Fm.counts z.2.1) (0,[Fm.mk op nm fd a b ex args],[Fm.mk opb nmb fdb ab bb exb argsb],.slice (some ⟨b11,0,none⟩) 1 1,.slice (some ⟨b13,0,none⟩) 1 1,[.int .u8 op.toNat,strV nm,strV fd,.int .i64 a.toInt,.int .i64 b.toInt,.slice p1 ex.length c1,.slice p2 args.length c2],[.int .u8 opb.toNat,strV nmb,strV fdb,.int .i64 ab.toInt,.int .i64 bb.toInt,.slice p3 exb.length c3,.slice p4 argsb.length c4]) (λ_ s=>s) ⟨Z,Z,Z,Jt⟩ ⟨.single h Z,.single k Z,Z,by rw [Fm.counts,Fm.counts];omega,λg hg=>by rw [Al_List_mem_singleton.1 hg];exact hb,by simp,by simp⟩ λz hC=>?_
  obtain ⟨n,fs,gs,rf,rg,xf,xg⟩:=z;obtain ⟨zf,zg,hle,hcnt,hbf,hlen,hiff⟩:=hC;dsimp only at zf zg hle hcnt hbf hlen hiff|-;have hNn:N * n<=N * Fm.count (.mk op nm fd a b ex args):=Al_Nat_mul_le_mul_left N (by omega);refine At.ra (size:=7) (r:=rf) (e:=35) Hm λpf cf e=>?_;subst e;refine At.ra (size:=7) (r:=rg) (e:=35) mem1 λpg cg e=>?_;subst e;refine .sq<|.sm Z<|.yw (.geq Z Z)<|.nt<|.cd Z (λh15=>?_) (λh15=>?_)
  ·try simp only [dt] at h15
   have hpos:0<fs.length:=by omega
   obtain ⟨fs0,f0,rfl⟩:∃ fs0 f0,fs=fs0++[f0]:=by
    rcases List.eq_nil_or_concat fs with h | ⟨t,x,h⟩
    ·subst h;simp at hpos hle
    ·exact ⟨t,x,by rw [h,List.concat_eq_append]⟩
   have hl0:(fs0++[f0]).length=fs0.length+1:=by rw [Al_List_length_append];rfl
   refine Sx.rowCase (size:=7) (r:=.slice pf (fs0++[f0]).length cf) (e:=35) Hm (by rw [hl0];exact Nat.succ_pos _) λwf c e hgc=>?_;injection e with e3 _ e4
   subst e3 e4;obtain ⟨cs0,r0,hc0,hx0⟩:=RepZ.at zf (i:=fs0.length) (d:=dFm .u8 f0) (by rw [Al_List_map_append,List.getElem?_append_right (by rw [Al_List_length_map];exact Al_Nat_le_refl _),Al_List_length_map,Al_Nat_sub_self];rfl)
   have hz0:RepZ H 7 (fs0.map (dFm .u8)) (xf.take (fs0.length * 7)):=by
    have h:=RepZ.take fs0.length zf;rw [Al_List_map_append,List.take_left' (by rw [Al_List_length_map])] at h;exact h
   obtain ⟨gs0,g0,rfl⟩:∃ fs0 f0,gs=fs0++[f0]:=by
    rcases List.eq_nil_or_concat gs with h | ⟨t,x,h⟩
    ·subst h;simp at hpos hle
    ·exact ⟨t,x,by rw [h,List.concat_eq_append]⟩
   have hl1:(gs0++[g0]).length=gs0.length+1:=by rw [Al_List_length_append];rfl
   refine Sx.rowCase (size:=7) (r:=.slice pg (gs0++[g0]).length cg) (e:=35) mem1 (by rw [hl1];exact Nat.succ_pos _) λwg c e hgd=>?_;injection e with e3 _ e4
   subst e3 e4;obtain ⟨cs1,r1,hc1,hx1⟩:=RepZ.at zg (i:=gs0.length) (d:=dFm .u8 g0) (by rw [Al_List_map_append,List.getElem?_append_right (by rw [Al_List_length_map];exact Al_Nat_le_refl _),Al_List_length_map,Al_Nat_sub_self];rfl)
   have hz1:RepZ H 7 (gs0.map (dFm .u8)) (xg.take (gs0.length * 7)):=by
    have h:=RepZ.take gs0.length zg;rw [Al_List_map_append,List.take_left' (by rw [Al_List_length_map])] at h;exact h
   obtain ⟨op0,nm0,fd0,a0,b0,ex0,args0⟩:=f0;obtain ⟨op1,nm1,fd1,a1,b1,ex1,args1⟩:=g0;obtain ⟨q1,d1,q2,d2,rfl,hs0,hs3,_,_⟩:=fm_open r0;obtain ⟨q5,d5,q6,d6,rfl,hs5,hs6,_,_⟩:=fm_open r1;have hb0:=(blF_mk.1 (hbf _ (Al_List_mem_append.2 (.inr (Al_List_mem_singleton.2 rfl)))));rw [fm_counts_app,Fm.counts,Fm.counts,fm_count] at hcnt;rw [hl0,hl1] at hle;rw [hl0] at hlen;have hNs:N * (n+1)=N * n+N:=Nat.mul_succ N n;have hcp0:=hs3.cap;have hcp1:=hs6.cap;refine .sk<|.tN<|.sq<|.bk<|.sq<|.ft (p:=.light _ _ (.light _ _ (.light _ _ (.light _ _ (.light _ _ (.light _ _ (.light _ _ (.light _ _ (.alt _ _ _ (.alt _ _ _ (.alt _ _ _ (.done) (.no)) (.no)) (.alt _ _ _ (.alt _ _ _ (.alt _ _ _ (.done) (.no)) (.no)) (.no))))))))))) 11 (.light 0 (.light 1 (.light 2 (.light 3 (.light 4 (.light 5 (.light 6 (.light 7 (.alt 8 0 (.alt 9 0 (.alt 10 2 (.done) (.no)) (.no)) (.alt 9 0 (.alt 8 0 (.alt 10 2 (.done) (.no)) (.no)) (.no))))))))))) (by kernel_rfl) (by kernel_rfl) Z<|.mv Z<|.mv Z<|.yw (.indexSl Fx.sl33 Z Z (i:=fs0.length) (by rw [hl0];omega) (by rw [hl0];omega) (q:=fs0.length * 7) (by omega))<|.yw (.loadR (vs:=cFm .u8 op0 nm0 fd0 a0 b0 (.slice q1 ex0.length d1) (.slice q2 args0.length d2)) Z Fx.agg35 Hm Z hx0)<|.mv Z<|.mv Z<|.yw (.indexSl Fx.sl33 Z Z (i:=gs0.length) (by rw [hl0];omega) (by rw [hl1];omega) (q:=gs0.length * 7) (by omega))<|.yw (.loadR (vs:=cFm .u8 op1 nm1 fd1 a1 b1 (.slice q5 ex1.length d5) (.slice q6 args1.length d6)) Z Fx.agg35 mem1 Z hx1)<|.h ?_ (.h ?_ .nn)
   ·
    refine .al Fx.zero35 Z λb8=>.h1<|.al Fx.zero35 Z λb9=>.h1<|.sW upd1 Z Z Fx.size35 (by simp [Value.oneCell',strV]) Z ((.yv (.loadR (vs:=cFm .u8 op1 nm1 fd1 a1 b1 (.slice q5 ex1.length d5) (.slice q6 args1.length d6)) Z Fx.agg35 mem3 Z hx1)<|.yv (.indexSl Fx.sl33 Z Z (i:=gs0.length) (by rw [hl0];omega) (by rw [hl1];omega) (q:=gs0.length * 7) (by omega))<|.yv (.move Z)<|.yv (.move Z)<|.d4<|.nl))<|.fn (tl:=[_]) Z<|.sX .head Z Z Fx.size35 Z<|.nt<|.sq<|.sr<|.fA Z Fx.field35_0<|.lD Z Fx.agg31 mem1 Z<|.fA Z Fx.field35_0<|.lD Z Fx.agg31 Hm Z<|.yw (.neq Z Z)<|.mv Z<|.b2 (λh32=>?_) (λh32=>?_)
    ·try simp only [dt] at h32
     have e1:=(λe=>h32 (by rw [e]):¬ op0=op1);refine .gG<|.gG<|.gG<|.gG<|.gG<|.yw (.pickT Z Z)<|.mv Z<|.gG<|.gG<|.gG<|.gG<|.gG<|.yw (.pickT Z Z)<|.mv Z<|.gG<|.gG<|.gG<|.gG<|.gG<|.yw (.pickT Z Z)<|.mv Z<|.gG<|.gG<|.gG<|.gG<|.gG<|.yw (.pickT Z Z)<|.mv Z<|.gG<|.gG<|.gG<|.gG<|.gG<|.gG<|.gG<|.yw (.pickT Z Z)<|.mv Z<|.gG<|.gG<|.gG<|.gG<|.gG<|.gG<|.yw (.pickT Z Z)<|.nt<|.cT Z<|.sr<|.az Z<|.tR<|.bR<|.tR<|.tR<|.bR<|.tR<|?_
     refine y9 Z Z λW s=>⟨retB ?_,s.ext⟩
     first
      | (rw [eqP_iff];exact ⟨λ_=>hall,λ_=>rfl⟩)
      | (rw [eqP_iff];exact ⟨λh=>(by cases h),λh=>absurd (hiff.1 h) (by rw [snocF_eq];exact λh=>e1 (h.2.1))⟩)
      | (rw [eqP_iff];exact ⟨λh=>(by cases h),λh=>absurd (hiff.1 h) (by rw [snocF_eq];exact λh=>e2 (h.2.2.1))⟩)
      | (rw [eqP_iff];exact ⟨λh=>(by cases h),λh=>absurd (hiff.1 h) (by rw [snocF_eq];exact λh=>e3 (h.2.2.2.1))⟩)
      | (rw [eqP_iff];exact ⟨λh=>(by cases h),λh=>absurd (hiff.1 h) (by rw [snocF_eq];exact λh=>e4 (h.2.2.2.2.1))⟩)
      | (rw [eqP_iff];exact ⟨λh=>(by cases h),λh=>absurd (hiff.1 h) (by rw [snocF_eq];exact λh=>e5 (h.2.2.2.2.2.1))⟩)
      | (rw [eqP_iff];exact ⟨λh=>(by cases h),λh=>absurd (hiff.1 h) (by rw [snocF_eq];exact λh=>e6 (by rw [h.2.2.2.2.2.2.2]))⟩)
      | (rw [eqP_iff];exact ⟨λh=>(by cases h),λh=>absurd (hiff.1 h) (by rw [snocF_eq];exact λh=>e7 h.2.2.2.2.2.2.1)⟩)
    try simp only [df] at h32
    have e1:=Al_UInt8_toNat_inj.1 (by omega:op0.toNat=op1.toNat);refine .gy (.fieldAddr Z Fx.field35_1)<|.gy (.load Z Fx.agg9 mem1 Z)<|.gy (.fieldAddr Z Fx.field35_1)<|.gy (.load Z Fx.agg9 Hm Z)<|.gy (.neS Z Z)<|.yw (.pickF Z Z)<|.mv Z<|.b2 (λh39=>?_) (λh39=>?_)
    ·try simp only [dt] at h39
     have e2:=(id h39:¬ nm0=nm1);refine .gG<|.gG<|.gG<|.gG<|.gG<|.yw (.pickT Z Z)<|.mv Z<|.gG<|.gG<|.gG<|.gG<|.gG<|.yw (.pickT Z Z)<|.mv Z<|.gG<|.gG<|.gG<|.gG<|.gG<|.yw (.pickT Z Z)<|.mv Z<|.gG<|.gG<|.gG<|.gG<|.gG<|.gG<|.gG<|.yw (.pickT Z Z)<|.mv Z<|.gG<|.gG<|.gG<|.gG<|.gG<|.gG<|.yw (.pickT Z Z)<|.nt<|.cT Z<|.sr<|.az Z<|.tR<|.bR<|.tR<|.tR<|.bR<|.tR<|?_
     refine y9 Z Z λW s=>⟨retB ?_,s.ext⟩
     first
      | (rw [eqP_iff];exact ⟨λ_=>hall,λ_=>rfl⟩)
      | (rw [eqP_iff];exact ⟨λh=>(by cases h),λh=>absurd (hiff.1 h) (by rw [snocF_eq];exact λh=>e1 (h.2.1))⟩)
      | (rw [eqP_iff];exact ⟨λh=>(by cases h),λh=>absurd (hiff.1 h) (by rw [snocF_eq];exact λh=>e2 (h.2.2.1))⟩)
      | (rw [eqP_iff];exact ⟨λh=>(by cases h),λh=>absurd (hiff.1 h) (by rw [snocF_eq];exact λh=>e3 (h.2.2.2.1))⟩)
      | (rw [eqP_iff];exact ⟨λh=>(by cases h),λh=>absurd (hiff.1 h) (by rw [snocF_eq];exact λh=>e4 (h.2.2.2.2.1))⟩)
      | (rw [eqP_iff];exact ⟨λh=>(by cases h),λh=>absurd (hiff.1 h) (by rw [snocF_eq];exact λh=>e5 (h.2.2.2.2.2.1))⟩)
      | (rw [eqP_iff];exact ⟨λh=>(by cases h),λh=>absurd (hiff.1 h) (by rw [snocF_eq];exact λh=>e6 (by rw [h.2.2.2.2.2.2.2]))⟩)
      | (rw [eqP_iff];exact ⟨λh=>(by cases h),λh=>absurd (hiff.1 h) (by rw [snocF_eq];exact λh=>e7 h.2.2.2.2.2.2.1)⟩)
    try simp only [df] at h39
    have e2:=(Al_Classical_not_not.1 h39:nm0=nm1);refine .gy (.fieldAddr Z Fx.field35_2)<|.gy (.load Z Fx.agg9 mem1 Z)<|.gy (.fieldAddr Z Fx.field35_2)<|.gy (.load Z Fx.agg9 Hm Z)<|.gy (.neS Z Z)<|.yw (.pickF Z Z)<|.mv Z<|.b2 (λh46=>?_) (λh46=>?_)
    ·try simp only [dt] at h46
     have e3:=(id h46:¬ fd0=fd1);refine .gG<|.gG<|.gG<|.gG<|.gG<|.yw (.pickT Z Z)<|.mv Z<|.gG<|.gG<|.gG<|.gG<|.gG<|.yw (.pickT Z Z)<|.mv Z<|.gG<|.gG<|.gG<|.gG<|.gG<|.gG<|.gG<|.yw (.pickT Z Z)<|.mv Z<|.gG<|.gG<|.gG<|.gG<|.gG<|.gG<|.yw (.pickT Z Z)<|.nt<|.cT Z<|.sr<|.az Z<|.tR<|.bR<|.tR<|.tR<|.bR<|.tR<|?_
     refine y9 Z Z λW s=>⟨retB ?_,s.ext⟩
     first
      | (rw [eqP_iff];exact ⟨λ_=>hall,λ_=>rfl⟩)
      | (rw [eqP_iff];exact ⟨λh=>(by cases h),λh=>absurd (hiff.1 h) (by rw [snocF_eq];exact λh=>e1 (h.2.1))⟩)
      | (rw [eqP_iff];exact ⟨λh=>(by cases h),λh=>absurd (hiff.1 h) (by rw [snocF_eq];exact λh=>e2 (h.2.2.1))⟩)
      | (rw [eqP_iff];exact ⟨λh=>(by cases h),λh=>absurd (hiff.1 h) (by rw [snocF_eq];exact λh=>e3 (h.2.2.2.1))⟩)
      | (rw [eqP_iff];exact ⟨λh=>(by cases h),λh=>absurd (hiff.1 h) (by rw [snocF_eq];exact λh=>e4 (h.2.2.2.2.1))⟩)
      | (rw [eqP_iff];exact ⟨λh=>(by cases h),λh=>absurd (hiff.1 h) (by rw [snocF_eq];exact λh=>e5 (h.2.2.2.2.2.1))⟩)
      | (rw [eqP_iff];exact ⟨λh=>(by cases h),λh=>absurd (hiff.1 h) (by rw [snocF_eq];exact λh=>e6 (by rw [h.2.2.2.2.2.2.2]))⟩)
      | (rw [eqP_iff];exact ⟨λh=>(by cases h),λh=>absurd (hiff.1 h) (by rw [snocF_eq];exact λh=>e7 h.2.2.2.2.2.2.1)⟩)
    try simp only [df] at h46
    have e3:=(Al_Classical_not_not.1 h46:fd0=fd1);refine .gy (.fieldAddr Z Fx.field35_3)<|.gy (.load Z Fx.agg3 mem1 Z)<|.gy (.fieldAddr Z Fx.field35_3)<|.gy (.load Z Fx.agg3 Hm Z)<|.gy (.neq Z Z)<|.yw (.pickF Z Z)<|.mv Z<|.b2 (λh53=>?_) (λh53=>?_)
    ·try simp only [dt] at h53
     have e4:=(λe=>h53 (by rw [e]):¬ a0=a1);refine .gG<|.gG<|.gG<|.gG<|.gG<|.yw (.pickT Z Z)<|.mv Z<|.gG<|.gG<|.gG<|.gG<|.gG<|.gG<|.gG<|.yw (.pickT Z Z)<|.mv Z<|.gG<|.gG<|.gG<|.gG<|.gG<|.gG<|.yw (.pickT Z Z)<|.nt<|.cT Z<|.sr<|.az Z<|.tR<|.bR<|.tR<|.tR<|.bR<|.tR<|?_
     refine y9 Z Z λW s=>⟨retB ?_,s.ext⟩
     first
      | (rw [eqP_iff];exact ⟨λ_=>hall,λ_=>rfl⟩)
      | (rw [eqP_iff];exact ⟨λh=>(by cases h),λh=>absurd (hiff.1 h) (by rw [snocF_eq];exact λh=>e1 (h.2.1))⟩)
      | (rw [eqP_iff];exact ⟨λh=>(by cases h),λh=>absurd (hiff.1 h) (by rw [snocF_eq];exact λh=>e2 (h.2.2.1))⟩)
      | (rw [eqP_iff];exact ⟨λh=>(by cases h),λh=>absurd (hiff.1 h) (by rw [snocF_eq];exact λh=>e3 (h.2.2.2.1))⟩)
      | (rw [eqP_iff];exact ⟨λh=>(by cases h),λh=>absurd (hiff.1 h) (by rw [snocF_eq];exact λh=>e4 (h.2.2.2.2.1))⟩)
      | (rw [eqP_iff];exact ⟨λh=>(by cases h),λh=>absurd (hiff.1 h) (by rw [snocF_eq];exact λh=>e5 (h.2.2.2.2.2.1))⟩)
      | (rw [eqP_iff];exact ⟨λh=>(by cases h),λh=>absurd (hiff.1 h) (by rw [snocF_eq];exact λh=>e6 (by rw [h.2.2.2.2.2.2.2]))⟩)
      | (rw [eqP_iff];exact ⟨λh=>(by cases h),λh=>absurd (hiff.1 h) (by rw [snocF_eq];exact λh=>e7 h.2.2.2.2.2.2.1)⟩)
    try simp only [df] at h53
    have e4:=Al_Int64_toInt_inj.1 (by omega:a0.toInt=a1.toInt);refine .gy (.fieldAddr Z Fx.field35_4)<|.gy (.load Z Fx.agg3 mem1 Z)<|.gy (.fieldAddr Z Fx.field35_4)<|.gy (.load Z Fx.agg3 Hm Z)<|.gy (.neq Z Z)<|.yw (.pickF Z Z)<|.mv Z<|.b2 (λh60=>?_) (λh60=>?_)
    ·try simp only [dt] at h60
     have e5:=(λe=>h60 (by rw [e]):¬ b0=b1);refine .gG<|.gG<|.gG<|.gG<|.gG<|.gG<|.gG<|.yw (.pickT Z Z)<|.mv Z<|.gG<|.gG<|.gG<|.gG<|.gG<|.gG<|.yw (.pickT Z Z)<|.nt<|.cT Z<|.sr<|.az Z<|.tR<|.bR<|.tR<|.tR<|.bR<|.tR<|?_
     refine y9 Z Z λW s=>⟨retB ?_,s.ext⟩
     first
      | (rw [eqP_iff];exact ⟨λ_=>hall,λ_=>rfl⟩)
      | (rw [eqP_iff];exact ⟨λh=>(by cases h),λh=>absurd (hiff.1 h) (by rw [snocF_eq];exact λh=>e1 (h.2.1))⟩)
      | (rw [eqP_iff];exact ⟨λh=>(by cases h),λh=>absurd (hiff.1 h) (by rw [snocF_eq];exact λh=>e2 (h.2.2.1))⟩)
      | (rw [eqP_iff];exact ⟨λh=>(by cases h),λh=>absurd (hiff.1 h) (by rw [snocF_eq];exact λh=>e3 (h.2.2.2.1))⟩)
      | (rw [eqP_iff];exact ⟨λh=>(by cases h),λh=>absurd (hiff.1 h) (by rw [snocF_eq];exact λh=>e4 (h.2.2.2.2.1))⟩)
      | (rw [eqP_iff];exact ⟨λh=>(by cases h),λh=>absurd (hiff.1 h) (by rw [snocF_eq];exact λh=>e5 (h.2.2.2.2.2.1))⟩)
      | (rw [eqP_iff];exact ⟨λh=>(by cases h),λh=>absurd (hiff.1 h) (by rw [snocF_eq];exact λh=>e6 (by rw [h.2.2.2.2.2.2.2]))⟩)
      | (rw [eqP_iff];exact ⟨λh=>(by cases h),λh=>absurd (hiff.1 h) (by rw [snocF_eq];exact λh=>e7 h.2.2.2.2.2.2.1)⟩)
    try simp only [df] at h60
    have e5:=Al_Int64_toInt_inj.1 (by omega:b0.toInt=b1.toInt);refine .gy (.fieldAddr Z Fx.field35_6)<|.gy (.load Z Fx.agg33 mem1 Z)<|.gy (.lenSl Fx.sl33 Z)<|.gy (.fieldAddr Z Fx.field35_6)<|.gy (.load Z Fx.agg33 Hm Z)<|.gy (.lenSl Fx.sl33 Z)<|.gy (.neq Z Z)<|.yw (.pickF Z Z)<|.mv Z<|.b2 (λh69=>?_) (λh69=>?_)
    ·try simp only [dt] at h69
     have e6:=(λe=>h69 (by rw [e]):¬ args0.length=args1.length);refine .gG<|.gG<|.gG<|.gG<|.gG<|.gG<|.yw (.pickT Z Z)<|.nt<|.cT Z<|.sr<|.az Z<|.tR<|.bR<|.tR<|.tR<|.bR<|.tR<|?_
     refine y9 Z Z λW s=>⟨retB ?_,s.ext⟩
     first
      | (rw [eqP_iff];exact ⟨λ_=>hall,λ_=>rfl⟩)
      | (rw [eqP_iff];exact ⟨λh=>(by cases h),λh=>absurd (hiff.1 h) (by rw [snocF_eq];exact λh=>e1 (h.2.1))⟩)
      | (rw [eqP_iff];exact ⟨λh=>(by cases h),λh=>absurd (hiff.1 h) (by rw [snocF_eq];exact λh=>e2 (h.2.2.1))⟩)
      | (rw [eqP_iff];exact ⟨λh=>(by cases h),λh=>absurd (hiff.1 h) (by rw [snocF_eq];exact λh=>e3 (h.2.2.2.1))⟩)
      | (rw [eqP_iff];exact ⟨λh=>(by cases h),λh=>absurd (hiff.1 h) (by rw [snocF_eq];exact λh=>e4 (h.2.2.2.2.1))⟩)
      | (rw [eqP_iff];exact ⟨λh=>(by cases h),λh=>absurd (hiff.1 h) (by rw [snocF_eq];exact λh=>e5 (h.2.2.2.2.2.1))⟩)
      | (rw [eqP_iff];exact ⟨λh=>(by cases h),λh=>absurd (hiff.1 h) (by rw [snocF_eq];exact λh=>e6 (by rw [h.2.2.2.2.2.2.2]))⟩)
      | (rw [eqP_iff];exact ⟨λh=>(by cases h),λh=>absurd (hiff.1 h) (by rw [snocF_eq];exact λh=>e7 h.2.2.2.2.2.2.1)⟩)
    try simp only [df] at h69
    have e6:=(by omega:args0.length=args1.length);refine .gy (.fieldAddr Z Fx.field35_5)<|.gy (.load Z Fx.agg32 mem1 Z)<|.gy (.fieldAddr Z Fx.field35_5)<|.gy (.load Z Fx.agg32 Hm Z)<|.gy (.call Fx.call51 Z (λW s=>eqFuncE H 52 Fx.call52 ex0 ex1 (λa _=>equalExpr_any H a) _ _ hs0 hs5 W s.agr))<|.gy (.not Z)<|.yw (.pickF Z Z)<|.nt<|.cd Z (λh76=>?_) (λh76=>?_)
    ·try simp only [dt] at h76
     have e7:=eqP_false.1 (by simpa using h76);refine .sr<|.az Z<|.tR<|.bR<|.tR<|.tR<|.bR<|.tR<|?_
     refine y9 Z Z λW s=>⟨retB ?_,s.ext⟩
     first
      | (rw [eqP_iff];exact ⟨λ_=>hall,λ_=>rfl⟩)
      | (rw [eqP_iff];exact ⟨λh=>(by cases h),λh=>absurd (hiff.1 h) (by rw [snocF_eq];exact λh=>e1 (h.2.1))⟩)
      | (rw [eqP_iff];exact ⟨λh=>(by cases h),λh=>absurd (hiff.1 h) (by rw [snocF_eq];exact λh=>e2 (h.2.2.1))⟩)
      | (rw [eqP_iff];exact ⟨λh=>(by cases h),λh=>absurd (hiff.1 h) (by rw [snocF_eq];exact λh=>e3 (h.2.2.2.1))⟩)
      | (rw [eqP_iff];exact ⟨λh=>(by cases h),λh=>absurd (hiff.1 h) (by rw [snocF_eq];exact λh=>e4 (h.2.2.2.2.1))⟩)
      | (rw [eqP_iff];exact ⟨λh=>(by cases h),λh=>absurd (hiff.1 h) (by rw [snocF_eq];exact λh=>e5 (h.2.2.2.2.2.1))⟩)
      | (rw [eqP_iff];exact ⟨λh=>(by cases h),λh=>absurd (hiff.1 h) (by rw [snocF_eq];exact λh=>e6 (by rw [h.2.2.2.2.2.2.2]))⟩)
      | (rw [eqP_iff];exact ⟨λh=>(by cases h),λh=>absurd (hiff.1 h) (by rw [snocF_eq];exact λh=>e7 h.2.2.2.2.2.2.1)⟩)
    try simp only [df] at h76
    have e7:=eqP_iff.1 (by simpa using h76);refine Sx.At.rcut (size:=7) (m:=fs0.length) (ys:=xf.take (fs0.length * 7)) upd2 (by rw [hl0];exact Nat.le_succ _) rfl ?_;refine Sx.At.rcut (size:=7) (m:=gs0.length) (ys:=xg.take (gs0.length * 7)) upd3 (by rw [hl1];exact Nat.le_succ _) rfl ?_;exact .sk<|.tN<|.fL 12 [(0,0),(1,0),(2,0),(3,0),(4,0),(6,0),(7,0),(8,0),(9,0),(10,0),(5,3),(11,3)]<|.mv Z<|.mv Z<|.yw (.cutHi Fx.sl33 Z Z (h:=fs0.length) (by rw [hl0];omega) (by rw [hl0] at hgc;omega) (λq e=>by cases e;rfl))<|.fA Z Fx.field35_6<|.lD Z Fx.agg33 mem1 Z<|.mv Z<|.mv Z<|.yw (.cutHi Fx.sl33 Z Z (h:=gs0.length) (by rw [hl0];omega) (by rw [hl1] at hgd;omega) (λq e=>by cases e;rfl))<|.fA Z Fx.field35_6<|.lD Z Fx.agg33 Hm Z<|.apD Fx.row33 Z (λ_ _=>upd2) Z hs3 (by simp only [maxLen];omega) (by omega) Z (λ_ _=>(.yv (.load Z Fx.agg33 Hm Z)<|.yv (.fieldAddr Z Fx.field35_6)<|.yv (.cutHi Fx.sl33 Z Z (h:=gs0.length) (by rw [hl0];omega) (by rw [hl1] at hgd;omega) (λq e=>by cases e;rfl))<|.yv (.move Z)<|.yv (.move Z)<|.d3<|.d2<|.nl)) λnews pN cN hzn=>.apD Fx.row33 Z (λ_ _=>upd3) Z hs6 (by simp only [maxLen];omega) (by omega) Z (λ_ _=>(.d4<|.d4<|.d2<|.nl)) λmews pM cM hzm=>.fn (tl:=[_,_]) Z<|.a Z Z<|.a Z Z<|.nl<|.bN<|.tN<|.rg<|.mv Z<|.yw (.lenSl Fx.sl33 Z)<|.yw (.sub Z Z (w6 (by omega)))<|.aq Z<|.ag (x:=(n,fs0++[Fm.mk op0 nm0 fd0 a0 b0 ex0 args0],gs0++[Fm.mk op1 nm1 fd1 a1 b1 ex1 args1],Value.slice (some ⟨wf,0,none⟩) (fs0++[Fm.mk op0 nm0 fd0 a0 b0 ex0 args0]).length cf,Value.slice (some ⟨wg,0,none⟩) (gs0++[Fm.mk op1 nm1 fd1 a1 b1 ex1 args1]).length cg,xf,xg)) (n+1,fs0++args0,gs0++args1,Value.slice pN (fs0.length+args0.length) cN,Value.slice pM (gs0.length+args1.length) cM,xf.take (fs0.length * 7)++news,xg.take (gs0.length * 7)++mews) ⟨Z,Z,by dsimp only;exact congrArg (λm:Nat=>some (Value.int .i64 ((m:Int) - 1))) (Al_List_length_append ).symm,Jt⟩ trivial (λ_ s=>by dsimp only;rw [Al_List_length_append,Al_List_length_append];exact (s.pick [2,3,4,5] _ Z Z)) ⟨by rw [Al_List_map_append];exact hz0.app hzn,by rw [Al_List_map_append];exact hz1.app hzm,by dsimp only;rw [Al_List_length_append,Al_List_length_append];omega,by dsimp only;rw [fm_counts_app];omega,λe he=>by rcases Al_List_mem_append.1 he with h | h;exact hbf e (Al_List_mem_append.2 (.inl h));exact hb0.2 e h,by dsimp only;rw [Al_List_length_append,hNs];omega,by dsimp only;exact hiff.trans (snocF_app e1 e2 e3 e4 e5 e6 e7 hle)⟩ (by dsimp only;rw [fm_counts_app,fm_counts_app,Fm.counts,Fm.counts,fm_count];omega)
   refine .al Fx.zero35 Z λb9=>.h1<|.al Fx.zero35 Z λb8=>.h1<|.sW .head Z Z Fx.size35 (by simp [Value.oneCell',strV]) Z ((.yv (.loadR (vs:=cFm .u8 op1 nm1 fd1 a1 b1 (.slice q5 ex1.length d5) (.slice q6 args1.length d6)) Z Fx.agg35 mem3 Z hx1)<|.yv (.indexSl Fx.sl33 Z Z (i:=gs0.length) (by rw [hl0];omega) (by rw [hl1];omega) (q:=gs0.length * 7) (by omega))<|.yv (.move Z)<|.yv (.move Z)<|.d4<|.nl))<|.fn (tl:=[_]) Z<|.sX upd1 Z Z Fx.size35 Z<|.nt<|.sq<|.sr<|.fA Z Fx.field35_0<|.lD Z Fx.agg31 Hm Z<|.fA Z Fx.field35_0<|.lD Z Fx.agg31 mem1 Z<|.yw (.neq Z Z)<|.mv Z<|.b2 (λh32=>?_) (λh32=>?_)
   ·try simp only [dt] at h32
    have e1:=(λe=>h32 (by rw [e]):¬ op0=op1);refine .gG<|.gG<|.gG<|.gG<|.gG<|.yw (.pickT Z Z)<|.mv Z<|.gG<|.gG<|.gG<|.gG<|.gG<|.yw (.pickT Z Z)<|.mv Z<|.gG<|.gG<|.gG<|.gG<|.gG<|.yw (.pickT Z Z)<|.mv Z<|.gG<|.gG<|.gG<|.gG<|.gG<|.yw (.pickT Z Z)<|.mv Z<|.gG<|.gG<|.gG<|.gG<|.gG<|.gG<|.gG<|.yw (.pickT Z Z)<|.mv Z<|.gG<|.gG<|.gG<|.gG<|.gG<|.gG<|.yw (.pickT Z Z)<|.nt<|.cT Z<|.sr<|.az Z<|.tR<|.bR<|.tR<|.tR<|.bR<|.tR<|?_
    refine y9 Z Z λW s=>⟨retB ?_,s.ext⟩
    first
     | (rw [eqP_iff];exact ⟨λ_=>hall,λ_=>rfl⟩)
     | (rw [eqP_iff];exact ⟨λh=>(by cases h),λh=>absurd (hiff.1 h) (by rw [snocF_eq];exact λh=>e1 (h.2.1))⟩)
     | (rw [eqP_iff];exact ⟨λh=>(by cases h),λh=>absurd (hiff.1 h) (by rw [snocF_eq];exact λh=>e2 (h.2.2.1))⟩)
     | (rw [eqP_iff];exact ⟨λh=>(by cases h),λh=>absurd (hiff.1 h) (by rw [snocF_eq];exact λh=>e3 (h.2.2.2.1))⟩)
     | (rw [eqP_iff];exact ⟨λh=>(by cases h),λh=>absurd (hiff.1 h) (by rw [snocF_eq];exact λh=>e4 (h.2.2.2.2.1))⟩)
     | (rw [eqP_iff];exact ⟨λh=>(by cases h),λh=>absurd (hiff.1 h) (by rw [snocF_eq];exact λh=>e5 (h.2.2.2.2.2.1))⟩)
     | (rw [eqP_iff];exact ⟨λh=>(by cases h),λh=>absurd (hiff.1 h) (by rw [snocF_eq];exact λh=>e6 (by rw [h.2.2.2.2.2.2.2]))⟩)
     | (rw [eqP_iff];exact ⟨λh=>(by cases h),λh=>absurd (hiff.1 h) (by rw [snocF_eq];exact λh=>e7 h.2.2.2.2.2.2.1)⟩)
   try simp only [df] at h32
   have e1:=Al_UInt8_toNat_inj.1 (by omega:op0.toNat=op1.toNat);refine .gy (.fieldAddr Z Fx.field35_1)<|.gy (.load Z Fx.agg9 Hm Z)<|.gy (.fieldAddr Z Fx.field35_1)<|.gy (.load Z Fx.agg9 mem1 Z)<|.gy (.neS Z Z)<|.yw (.pickF Z Z)<|.mv Z<|.b2 (λh39=>?_) (λh39=>?_)
   ·try simp only [dt] at h39
    have e2:=(id h39:¬ nm0=nm1);refine .gG<|.gG<|.gG<|.gG<|.gG<|.yw (.pickT Z Z)<|.mv Z<|.gG<|.gG<|.gG<|.gG<|.gG<|.yw (.pickT Z Z)<|.mv Z<|.gG<|.gG<|.gG<|.gG<|.gG<|.yw (.pickT Z Z)<|.mv Z<|.gG<|.gG<|.gG<|.gG<|.gG<|.gG<|.gG<|.yw (.pickT Z Z)<|.mv Z<|.gG<|.gG<|.gG<|.gG<|.gG<|.gG<|.yw (.pickT Z Z)<|.nt<|.cT Z<|.sr<|.az Z<|.tR<|.bR<|.tR<|.tR<|.bR<|.tR<|?_
    refine y9 Z Z λW s=>⟨retB ?_,s.ext⟩
    first
     | (rw [eqP_iff];exact ⟨λ_=>hall,λ_=>rfl⟩)
     | (rw [eqP_iff];exact ⟨λh=>(by cases h),λh=>absurd (hiff.1 h) (by rw [snocF_eq];exact λh=>e1 (h.2.1))⟩)
     | (rw [eqP_iff];exact ⟨λh=>(by cases h),λh=>absurd (hiff.1 h) (by rw [snocF_eq];exact λh=>e2 (h.2.2.1))⟩)
     | (rw [eqP_iff];exact ⟨λh=>(by cases h),λh=>absurd (hiff.1 h) (by rw [snocF_eq];exact λh=>e3 (h.2.2.2.1))⟩)
     | (rw [eqP_iff];exact ⟨λh=>(by cases h),λh=>absurd (hiff.1 h) (by rw [snocF_eq];exact λh=>e4 (h.2.2.2.2.1))⟩)
     | (rw [eqP_iff];exact ⟨λh=>(by cases h),λh=>absurd (hiff.1 h) (by rw [snocF_eq];exact λh=>e5 (h.2.2.2.2.2.1))⟩)
     | (rw [eqP_iff];exact ⟨λh=>(by cases h),λh=>absurd (hiff.1 h) (by rw [snocF_eq];exact λh=>e6 (by rw [h.2.2.2.2.2.2.2]))⟩)
     | (rw [eqP_iff];exact ⟨λh=>(by cases h),λh=>absurd (hiff.1 h) (by rw [snocF_eq];exact λh=>e7 h.2.2.2.2.2.2.1)⟩)
   try simp only [df] at h39
   have e2:=(Al_Classical_not_not.1 h39:nm0=nm1);refine .gy (.fieldAddr Z Fx.field35_2)<|.gy (.load Z Fx.agg9 Hm Z)<|.gy (.fieldAddr Z Fx.field35_2)<|.gy (.load Z Fx.agg9 mem1 Z)<|.gy (.neS Z Z)<|.yw (.pickF Z Z)<|.mv Z<|.b2 (λh46=>?_) (λh46=>?_)
   ·try simp only [dt] at h46
    have e3:=(id h46:¬ fd0=fd1);refine .gG<|.gG<|.gG<|.gG<|.gG<|.yw (.pickT Z Z)<|.mv Z<|.gG<|.gG<|.gG<|.gG<|.gG<|.yw (.pickT Z Z)<|.mv Z<|.gG<|.gG<|.gG<|.gG<|.gG<|.gG<|.gG<|.yw (.pickT Z Z)<|.mv Z<|.gG<|.gG<|.gG<|.gG<|.gG<|.gG<|.yw (.pickT Z Z)<|.nt<|.cT Z<|.sr<|.az Z<|.tR<|.bR<|.tR<|.tR<|.bR<|.tR<|?_
    refine y9 Z Z λW s=>⟨retB ?_,s.ext⟩
    first
     | (rw [eqP_iff];exact ⟨λ_=>hall,λ_=>rfl⟩)
     | (rw [eqP_iff];exact ⟨λh=>(by cases h),λh=>absurd (hiff.1 h) (by rw [snocF_eq];exact λh=>e1 (h.2.1))⟩)
     | (rw [eqP_iff];exact ⟨λh=>(by cases h),λh=>absurd (hiff.1 h) (by rw [snocF_eq];exact λh=>e2 (h.2.2.1))⟩)
     | (rw [eqP_iff];exact ⟨λh=>(by cases h),λh=>absurd (hiff.1 h) (by rw [snocF_eq];exact λh=>e3 (h.2.2.2.1))⟩)
     | (rw [eqP_iff];exact ⟨λh=>(by cases h),λh=>absurd (hiff.1 h) (by rw [snocF_eq];exact λh=>e4 (h.2.2.2.2.1))⟩)
     | (rw [eqP_iff];exact ⟨λh=>(by cases h),λh=>absurd (hiff.1 h) (by rw [snocF_eq];exact λh=>e5 (h.2.2.2.2.2.1))⟩)
     | (rw [eqP_iff];exact ⟨λh=>(by cases h),λh=>absurd (hiff.1 h) (by rw [snocF_eq];exact λh=>e6 (by rw [h.2.2.2.2.2.2.2]))⟩)
     | (rw [eqP_iff];exact ⟨λh=>(by cases h),λh=>absurd (hiff.1 h) (by rw [snocF_eq];exact λh=>e7 h.2.2.2.2.2.2.1)⟩)
   try simp only [df] at h46
   have e3:=(Al_Classical_not_not.1 h46:fd0=fd1);refine .gy (.fieldAddr Z Fx.field35_3)<|.gy (.load Z Fx.agg3 Hm Z)<|.gy (.fieldAddr Z Fx.field35_3)<|.gy (.load Z Fx.agg3 mem1 Z)<|.gy (.neq Z Z)<|.yw (.pickF Z Z)<|.mv Z<|.b2 (λh53=>?_) (λh53=>?_)
   ·try simp only [dt] at h53
    have e4:=(λe=>h53 (by rw [e]):¬ a0=a1);refine .gG<|.gG<|.gG<|.gG<|.gG<|.yw (.pickT Z Z)<|.mv Z<|.gG<|.gG<|.gG<|.gG<|.gG<|.gG<|.gG<|.yw (.pickT Z Z)<|.mv Z<|.gG<|.gG<|.gG<|.gG<|.gG<|.gG<|.yw (.pickT Z Z)<|.nt<|.cT Z<|.sr<|.az Z<|.tR<|.bR<|.tR<|.tR<|.bR<|.tR<|?_
    refine y9 Z Z λW s=>⟨retB ?_,s.ext⟩
    first
     | (rw [eqP_iff];exact ⟨λ_=>hall,λ_=>rfl⟩)
     | (rw [eqP_iff];exact ⟨λh=>(by cases h),λh=>absurd (hiff.1 h) (by rw [snocF_eq];exact λh=>e1 (h.2.1))⟩)
     | (rw [eqP_iff];exact ⟨λh=>(by cases h),λh=>absurd (hiff.1 h) (by rw [snocF_eq];exact λh=>e2 (h.2.2.1))⟩)
     | (rw [eqP_iff];exact ⟨λh=>(by cases h),λh=>absurd (hiff.1 h) (by rw [snocF_eq];exact λh=>e3 (h.2.2.2.1))⟩)
     | (rw [eqP_iff];exact ⟨λh=>(by cases h),λh=>absurd (hiff.1 h) (by rw [snocF_eq];exact λh=>e4 (h.2.2.2.2.1))⟩)
     | (rw [eqP_iff];exact ⟨λh=>(by cases h),λh=>absurd (hiff.1 h) (by rw [snocF_eq];exact λh=>e5 (h.2.2.2.2.2.1))⟩)
     | (rw [eqP_iff];exact ⟨λh=>(by cases h),λh=>absurd (hiff.1 h) (by rw [snocF_eq];exact λh=>e6 (by rw [h.2.2.2.2.2.2.2]))⟩)
     | (rw [eqP_iff];exact ⟨λh=>(by cases h),λh=>absurd (hiff.1 h) (by rw [snocF_eq];exact λh=>e7 h.2.2.2.2.2.2.1)⟩)
   try simp only [df] at h53
   have e4:=Al_Int64_toInt_inj.1 (by omega:a0.toInt=a1.toInt);refine .gy (.fieldAddr Z Fx.field35_4)<|.gy (.load Z Fx.agg3 Hm Z)<|.gy (.fieldAddr Z Fx.field35_4)<|.gy (.load Z Fx.agg3 mem1 Z)<|.gy (.neq Z Z)<|.yw (.pickF Z Z)<|.mv Z<|.b2 (λh60=>?_) (λh60=>?_)
   ·try simp only [dt] at h60
    have e5:=(λe=>h60 (by rw [e]):¬ b0=b1);refine .gG<|.gG<|.gG<|.gG<|.gG<|.gG<|.gG<|.yw (.pickT Z Z)<|.mv Z<|.gG<|.gG<|.gG<|.gG<|.gG<|.gG<|.yw (.pickT Z Z)<|.nt<|.cT Z<|.sr<|.az Z<|.tR<|.bR<|.tR<|.tR<|.bR<|.tR<|?_
    refine y9 Z Z λW s=>⟨retB ?_,s.ext⟩
    first
     | (rw [eqP_iff];exact ⟨λ_=>hall,λ_=>rfl⟩)
     | (rw [eqP_iff];exact ⟨λh=>(by cases h),λh=>absurd (hiff.1 h) (by rw [snocF_eq];exact λh=>e1 (h.2.1))⟩)
     | (rw [eqP_iff];exact ⟨λh=>(by cases h),λh=>absurd (hiff.1 h) (by rw [snocF_eq];exact λh=>e2 (h.2.2.1))⟩)
     | (rw [eqP_iff];exact ⟨λh=>(by cases h),λh=>absurd (hiff.1 h) (by rw [snocF_eq];exact λh=>e3 (h.2.2.2.1))⟩)
     | (rw [eqP_iff];exact ⟨λh=>(by cases h),λh=>absurd (hiff.1 h) (by rw [snocF_eq];exact λh=>e4 (h.2.2.2.2.1))⟩)
     | (rw [eqP_iff];exact ⟨λh=>(by cases h),λh=>absurd (hiff.1 h) (by rw [snocF_eq];exact λh=>e5 (h.2.2.2.2.2.1))⟩)
     | (rw [eqP_iff];exact ⟨λh=>(by cases h),λh=>absurd (hiff.1 h) (by rw [snocF_eq];exact λh=>e6 (by rw [h.2.2.2.2.2.2.2]))⟩)
     | (rw [eqP_iff];exact ⟨λh=>(by cases h),λh=>absurd (hiff.1 h) (by rw [snocF_eq];exact λh=>e7 h.2.2.2.2.2.2.1)⟩)
   try simp only [df] at h60
   have e5:=Al_Int64_toInt_inj.1 (by omega:b0.toInt=b1.toInt);refine .gy (.fieldAddr Z Fx.field35_6)<|.gy (.load Z Fx.agg33 Hm Z)<|.gy (.lenSl Fx.sl33 Z)<|.gy (.fieldAddr Z Fx.field35_6)<|.gy (.load Z Fx.agg33 mem1 Z)<|.gy (.lenSl Fx.sl33 Z)<|.gy (.neq Z Z)<|.yw (.pickF Z Z)<|.mv Z<|.b2 (λh69=>?_) (λh69=>?_)
   ·try simp only [dt] at h69
    have e6:=(λe=>h69 (by rw [e]):¬ args0.length=args1.length);refine .gG<|.gG<|.gG<|.gG<|.gG<|.gG<|.yw (.pickT Z Z)<|.nt<|.cT Z<|.sr<|.az Z<|.tR<|.bR<|.tR<|.tR<|.bR<|.tR<|?_
    refine y9 Z Z λW s=>⟨retB ?_,s.ext⟩
    first
     | (rw [eqP_iff];exact ⟨λ_=>hall,λ_=>rfl⟩)
     | (rw [eqP_iff];exact ⟨λh=>(by cases h),λh=>absurd (hiff.1 h) (by rw [snocF_eq];exact λh=>e1 (h.2.1))⟩)
     | (rw [eqP_iff];exact ⟨λh=>(by cases h),λh=>absurd (hiff.1 h) (by rw [snocF_eq];exact λh=>e2 (h.2.2.1))⟩)
     | (rw [eqP_iff];exact ⟨λh=>(by cases h),λh=>absurd (hiff.1 h) (by rw [snocF_eq];exact λh=>e3 (h.2.2.2.1))⟩)
     | (rw [eqP_iff];exact ⟨λh=>(by cases h),λh=>absurd (hiff.1 h) (by rw [snocF_eq];exact λh=>e4 (h.2.2.2.2.1))⟩)
     | (rw [eqP_iff];exact ⟨λh=>(by cases h),λh=>absurd (hiff.1 h) (by rw [snocF_eq];exact λh=>e5 (h.2.2.2.2.2.1))⟩)
     | (rw [eqP_iff];exact ⟨λh=>(by cases h),λh=>absurd (hiff.1 h) (by rw [snocF_eq];exact λh=>e6 (by rw [h.2.2.2.2.2.2.2]))⟩)
     | (rw [eqP_iff];exact ⟨λh=>(by cases h),λh=>absurd (hiff.1 h) (by rw [snocF_eq];exact λh=>e7 h.2.2.2.2.2.2.1)⟩)
   try simp only [df] at h69
   have e6:=(by omega:args0.length=args1.length);refine .gy (.fieldAddr Z Fx.field35_5)<|.gy (.load Z Fx.agg32 Hm Z)<|.gy (.fieldAddr Z Fx.field35_5)<|.gy (.load Z Fx.agg32 mem1 Z)<|.gy (.call Fx.call51 Z (λW s=>eqFuncE H 52 Fx.call52 ex0 ex1 (λa _=>equalExpr_any H a) _ _ hs0 hs5 W s.agr))<|.gy (.not Z)<|.yw (.pickF Z Z)<|.nt<|.cd Z (λh76=>?_) (λh76=>?_)
   ·try simp only [dt] at h76
    have e7:=eqP_false.1 (by simpa using h76);refine .sr<|.az Z<|.tR<|.bR<|.tR<|.tR<|.bR<|.tR<|?_
    refine y9 Z Z λW s=>⟨retB ?_,s.ext⟩
    first
     | (rw [eqP_iff];exact ⟨λ_=>hall,λ_=>rfl⟩)
     | (rw [eqP_iff];exact ⟨λh=>(by cases h),λh=>absurd (hiff.1 h) (by rw [snocF_eq];exact λh=>e1 (h.2.1))⟩)
     | (rw [eqP_iff];exact ⟨λh=>(by cases h),λh=>absurd (hiff.1 h) (by rw [snocF_eq];exact λh=>e2 (h.2.2.1))⟩)
     | (rw [eqP_iff];exact ⟨λh=>(by cases h),λh=>absurd (hiff.1 h) (by rw [snocF_eq];exact λh=>e3 (h.2.2.2.1))⟩)
     | (rw [eqP_iff];exact ⟨λh=>(by cases h),λh=>absurd (hiff.1 h) (by rw [snocF_eq];exact λh=>e4 (h.2.2.2.2.1))⟩)
     | (rw [eqP_iff];exact ⟨λh=>(by cases h),λh=>absurd (hiff.1 h) (by rw [snocF_eq];exact λh=>e5 (h.2.2.2.2.2.1))⟩)
     | (rw [eqP_iff];exact ⟨λh=>(by cases h),λh=>absurd (hiff.1 h) (by rw [snocF_eq];exact λh=>e6 (by rw [h.2.2.2.2.2.2.2]))⟩)
     | (rw [eqP_iff];exact ⟨λh=>(by cases h),λh=>absurd (hiff.1 h) (by rw [snocF_eq];exact λh=>e7 h.2.2.2.2.2.2.1)⟩)
   try simp only [df] at h76
   have e7:=eqP_iff.1 (by simpa using h76);refine Sx.At.rcut (size:=7) (m:=fs0.length) (ys:=xf.take (fs0.length * 7)) upd2 (by rw [hl0];exact Nat.le_succ _) rfl ?_;refine Sx.At.rcut (size:=7) (m:=gs0.length) (ys:=xg.take (gs0.length * 7)) upd3 (by rw [hl1];exact Nat.le_succ _) rfl ?_;exact .sk<|.tN<|.fL 12 [(0,0),(1,0),(2,0),(3,0),(4,0),(6,0),(7,0),(8,0),(9,0),(10,0),(5,3),(11,3)]<|.mv Z<|.mv Z<|.yw (.cutHi Fx.sl33 Z Z (h:=fs0.length) (by rw [hl0];omega) (by rw [hl0] at hgc;omega) (λq e=>by cases e;rfl))<|.fA Z Fx.field35_6<|.lD Z Fx.agg33 Hm Z<|.mv Z<|.mv Z<|.yw (.cutHi Fx.sl33 Z Z (h:=gs0.length) (by rw [hl0];omega) (by rw [hl1] at hgd;omega) (λq e=>by cases e;rfl))<|.fA Z Fx.field35_6<|.lD Z Fx.agg33 mem1 Z<|.apD Fx.row33 Z (λ_ _=>upd2) Z hs3 (by simp only [maxLen];omega) (by omega) Z (λ_ _=>(.yv (.load Z Fx.agg33 mem1 Z)<|.yv (.fieldAddr Z Fx.field35_6)<|.yv (.cutHi Fx.sl33 Z Z (h:=gs0.length) (by rw [hl0];omega) (by rw [hl1] at hgd;omega) (λq e=>by cases e;rfl))<|.yv (.move Z)<|.yv (.move Z)<|.d3<|.d2<|.nl)) λnews pN cN hzn=>.apD Fx.row33 Z (λ_ _=>upd3) Z hs6 (by simp only [maxLen];omega) (by omega) Z (λ_ _=>(.d4<|.d4<|.d2<|.nl)) λmews pM cM hzm=>.fn (tl:=[_,_]) Z<|.a Z Z<|.a Z Z<|.nl<|.bN<|.tN<|.rg<|.mv Z<|.yw (.lenSl Fx.sl33 Z)<|.yw (.sub Z Z (w6 (by omega)))<|.aq Z<|.ag (x:=(n,fs0++[Fm.mk op0 nm0 fd0 a0 b0 ex0 args0],gs0++[Fm.mk op1 nm1 fd1 a1 b1 ex1 args1],Value.slice (some ⟨wf,0,none⟩) (fs0++[Fm.mk op0 nm0 fd0 a0 b0 ex0 args0]).length cf,Value.slice (some ⟨wg,0,none⟩) (gs0++[Fm.mk op1 nm1 fd1 a1 b1 ex1 args1]).length cg,xf,xg)) (n+1,fs0++args0,gs0++args1,Value.slice pN (fs0.length+args0.length) cN,Value.slice pM (gs0.length+args1.length) cM,xf.take (fs0.length * 7)++news,xg.take (gs0.length * 7)++mews) ⟨Z,Z,by dsimp only;exact congrArg (λm:Nat=>some (Value.int .i64 ((m:Int) - 1))) (Al_List_length_append ).symm,Jt⟩ trivial (λ_ s=>by dsimp only;rw [Al_List_length_append,Al_List_length_append];exact (s.pick [2,3,4,5] _ Z Z)) ⟨by rw [Al_List_map_append];exact hz0.app hzn,by rw [Al_List_map_append];exact hz1.app hzm,by dsimp only;rw [Al_List_length_append,Al_List_length_append];omega,by dsimp only;rw [fm_counts_app];omega,λe he=>by rcases Al_List_mem_append.1 he with h | h;exact hbf e (Al_List_mem_append.2 (.inl h));exact hb0.2 e h,by dsimp only;rw [Al_List_length_append,hNs];omega,by dsimp only;exact hiff.trans (snocF_app e1 e2 e3 e4 e5 e6 e7 hle)⟩ (by dsimp only;rw [fm_counts_app,fm_counts_app,Fm.counts,Fm.counts,fm_count];omega)
  try simp only [df] at h15
  have hfs:fs=[]:=Al_List_eq_nil_of_length_eq_zero (by omega);have hgs:gs=[]:=Al_List_eq_nil_of_length_eq_zero (by omega);have hall:=hiff.2 (by rw [hfs,hgs]);refine .ex<|.eb<|.sr<|.az Z<|?_
  refine y9 Z Z λW s=>⟨retB ?_,s.ext⟩
  first
   | (rw [eqP_iff];exact ⟨λ_=>hall,λ_=>rfl⟩)
   | (rw [eqP_iff];exact ⟨λh=>(by cases h),λh=>absurd (hiff.1 h) (by rw [snocF_eq];exact λh=>e1 (h.2.1))⟩)
   | (rw [eqP_iff];exact ⟨λh=>(by cases h),λh=>absurd (hiff.1 h) (by rw [snocF_eq];exact λh=>e2 (h.2.2.1))⟩)
   | (rw [eqP_iff];exact ⟨λh=>(by cases h),λh=>absurd (hiff.1 h) (by rw [snocF_eq];exact λh=>e3 (h.2.2.2.1))⟩)
   | (rw [eqP_iff];exact ⟨λh=>(by cases h),λh=>absurd (hiff.1 h) (by rw [snocF_eq];exact λh=>e4 (h.2.2.2.2.1))⟩)
   | (rw [eqP_iff];exact ⟨λh=>(by cases h),λh=>absurd (hiff.1 h) (by rw [snocF_eq];exact λh=>e5 (h.2.2.2.2.2.1))⟩)
   | (rw [eqP_iff];exact ⟨λh=>(by cases h),λh=>absurd (hiff.1 h) (by rw [snocF_eq];exact λh=>e6 (by rw [h.2.2.2.2.2.2.2]))⟩)
   | (rw [eqP_iff];exact ⟨λh=>(by cases h),λh=>absurd (hiff.1 h) (by rw [snocF_eq];exact λh=>e7 h.2.2.2.2.2.2.1)⟩)
 refine .blR (z:=7) Z (Fx.bsl33_1 _ _ _ _ _ _ _) Z Z (by simp [maxLen]) λb13=>.h1<|.blR (z:=7) Z (Fx.bsl33_1 _ _ _ _ _ _ _) Z Z (by simp [maxLen]) λb11=>.a Z Z<|.fn (tl:=[_]) Z<|.aq Z<|.sq<|.sr<|.aq Z<|.bk<|.lp (X:=Nat × List Fm × List Fm × Value × Value × List Value × List Value) [] trivial [_,_] (λz=>[(5,z.2.2.2.1),(6,z.2.2.2.2.1),(7,.int .i64 ((z.2.1.length:Int) - 1))]) (λz=>H) (λz=>[.row 35 7 z.2.2.2.1 z.2.1.length z.2.2.2.2.2.1,.row 35 7 z.2.2.2.2.1 z.2.2.1.length z.2.2.2.2.2.2]) (λz=>RepZ H 7 (z.2.1.map (dFm .u8)) z.2.2.2.2.2.1/\RepZ H 7 (z.2.2.1.map (dFm .u8)) z.2.2.2.2.2.2/\z.2.1.length=z.2.2.1.length/\z.1+Fm.counts z.2.1<=Fm.count (.mk op nm fd a b ex args)/\(∀ g∈z.2.1,blF N g=true)/\z.2.1.length<=1+N * z.1/\(Fm.mk op nm fd a b ex args=Fm.mk opb nmb fdb ab bb exb argsb↔z.2.1=z.2.2.1)) (λz=>Fm.counts z.2.1) (0,[Fm.mk op nm fd a b ex args],[Fm.mk opb nmb fdb ab bb exb argsb],.slice (some ⟨b11,0,none⟩) 1 1,.slice (some ⟨b13,0,none⟩) 1 1,[.int .u8 op.toNat,strV nm,strV fd,.int .i64 a.toInt,.int .i64 b.toInt,.slice p1 ex.length c1,.slice p2 args.length c2],[.int .u8 opb.toNat,strV nmb,strV fdb,.int .i64 ab.toInt,.int .i64 bb.toInt,.slice p3 exb.length c3,.slice p4 argsb.length c4]) (λ_ s=>s) ⟨Z,Z,Z,Jt⟩ ⟨.single h Z,.single k Z,Z,by rw [Fm.counts,Fm.counts];omega,λg hg=>by rw [Al_List_mem_singleton.1 hg];exact hb,by simp,by simp⟩ λz hC=>?_
 obtain ⟨n,fs,gs,rf,rg,xf,xg⟩:=z;obtain ⟨zf,zg,hle,hcnt,hbf,hlen,hiff⟩:=hC;dsimp only at zf zg hle hcnt hbf hlen hiff|-;have hNn:N * n<=N * Fm.count (.mk op nm fd a b ex args):=Al_Nat_mul_le_mul_left N (by omega);refine At.ra (size:=7) (r:=rf) (e:=35) Hm λpf cf e=>?_;subst e;refine At.ra (size:=7) (r:=rg) (e:=35) mem1 λpg cg e=>?_;subst e;refine .sq<|.sm Z<|.yw (.geq Z Z)<|.nt<|.cd Z (λh15=>?_) (λh15=>?_)
 ·try simp only [dt] at h15
  have hpos:0<fs.length:=by omega
  obtain ⟨fs0,f0,rfl⟩:∃ fs0 f0,fs=fs0++[f0]:=by
   rcases List.eq_nil_or_concat fs with h | ⟨t,x,h⟩
   ·subst h;simp at hpos hle
   ·exact ⟨t,x,by rw [h,List.concat_eq_append]⟩
  have hl0:(fs0++[f0]).length=fs0.length+1:=by rw [Al_List_length_append];rfl
  refine Sx.rowCase (size:=7) (r:=.slice pf (fs0++[f0]).length cf) (e:=35) Hm (by rw [hl0];exact Nat.succ_pos _) λwf c e hgc=>?_;injection e with e3 _ e4
  subst e3 e4;obtain ⟨cs0,r0,hc0,hx0⟩:=RepZ.at zf (i:=fs0.length) (d:=dFm .u8 f0) (by rw [Al_List_map_append,List.getElem?_append_right (by rw [Al_List_length_map];exact Al_Nat_le_refl _),Al_List_length_map,Al_Nat_sub_self];rfl)
  have hz0:RepZ H 7 (fs0.map (dFm .u8)) (xf.take (fs0.length * 7)):=by
   have h:=RepZ.take fs0.length zf;rw [Al_List_map_append,List.take_left' (by rw [Al_List_length_map])] at h;exact h
  obtain ⟨gs0,g0,rfl⟩:∃ fs0 f0,gs=fs0++[f0]:=by
   rcases List.eq_nil_or_concat gs with h | ⟨t,x,h⟩
   ·subst h;simp at hpos hle
   ·exact ⟨t,x,by rw [h,List.concat_eq_append]⟩
  have hl1:(gs0++[g0]).length=gs0.length+1:=by rw [Al_List_length_append];rfl
  refine Sx.rowCase (size:=7) (r:=.slice pg (gs0++[g0]).length cg) (e:=35) mem1 (by rw [hl1];exact Nat.succ_pos _) λwg c e hgd=>?_;injection e with e3 _ e4
  subst e3 e4;obtain ⟨cs1,r1,hc1,hx1⟩:=RepZ.at zg (i:=gs0.length) (d:=dFm .u8 g0) (by rw [Al_List_map_append,List.getElem?_append_right (by rw [Al_List_length_map];exact Al_Nat_le_refl _),Al_List_length_map,Al_Nat_sub_self];rfl)
  have hz1:RepZ H 7 (gs0.map (dFm .u8)) (xg.take (gs0.length * 7)):=by
   have h:=RepZ.take gs0.length zg;rw [Al_List_map_append,List.take_left' (by rw [Al_List_length_map])] at h;exact h
  obtain ⟨op0,nm0,fd0,a0,b0,ex0,args0⟩:=f0;obtain ⟨op1,nm1,fd1,a1,b1,ex1,args1⟩:=g0;obtain ⟨q1,d1,q2,d2,rfl,hs0,hs3,_,_⟩:=fm_open r0;obtain ⟨q5,d5,q6,d6,rfl,hs5,hs6,_,_⟩:=fm_open r1;have hb0:=(blF_mk.1 (hbf _ (Al_List_mem_append.2 (.inr (Al_List_mem_singleton.2 rfl)))));rw [fm_counts_app,Fm.counts,Fm.counts,fm_count] at hcnt;rw [hl0,hl1] at hle;rw [hl0] at hlen;have hNs:N * (n+1)=N * n+N:=Nat.mul_succ N n;have hcp0:=hs3.cap;have hcp1:=hs6.cap;refine .sk<|.tN<|.sq<|.bk<|.sq<|.ft (p:=.light _ _ (.light _ _ (.light _ _ (.light _ _ (.light _ _ (.light _ _ (.light _ _ (.light _ _ (.alt _ _ _ (.alt _ _ _ (.alt _ _ _ (.done) (.no)) (.no)) (.alt _ _ _ (.alt _ _ _ (.alt _ _ _ (.done) (.no)) (.no)) (.no))))))))))) 11 (.light 0 (.light 1 (.light 2 (.light 3 (.light 4 (.light 5 (.light 6 (.light 7 (.alt 8 0 (.alt 9 0 (.alt 10 2 (.done) (.no)) (.no)) (.alt 9 0 (.alt 8 0 (.alt 10 2 (.done) (.no)) (.no)) (.no))))))))))) (by kernel_rfl) (by kernel_rfl) Z<|.mv Z<|.mv Z<|.yw (.indexSl Fx.sl33 Z Z (i:=fs0.length) (by rw [hl0];omega) (by rw [hl0];omega) (q:=fs0.length * 7) (by omega))<|.yw (.loadR (vs:=cFm .u8 op0 nm0 fd0 a0 b0 (.slice q1 ex0.length d1) (.slice q2 args0.length d2)) Z Fx.agg35 Hm Z hx0)<|.mv Z<|.mv Z<|.yw (.indexSl Fx.sl33 Z Z (i:=gs0.length) (by rw [hl0];omega) (by rw [hl1];omega) (q:=gs0.length * 7) (by omega))<|.yw (.loadR (vs:=cFm .u8 op1 nm1 fd1 a1 b1 (.slice q5 ex1.length d5) (.slice q6 args1.length d6)) Z Fx.agg35 mem1 Z hx1)<|.h ?_ (.h ?_ .nn)
  ·
   refine .al Fx.zero35 Z λb8=>.h1<|.al Fx.zero35 Z λb9=>.h1<|.sW upd1 Z Z Fx.size35 (by simp [Value.oneCell',strV]) Z ((.yv (.loadR (vs:=cFm .u8 op1 nm1 fd1 a1 b1 (.slice q5 ex1.length d5) (.slice q6 args1.length d6)) Z Fx.agg35 mem3 Z hx1)<|.yv (.indexSl Fx.sl33 Z Z (i:=gs0.length) (by rw [hl0];omega) (by rw [hl1];omega) (q:=gs0.length * 7) (by omega))<|.yv (.move Z)<|.yv (.move Z)<|.d4<|.nl))<|.fn (tl:=[_]) Z<|.sX .head Z Z Fx.size35 Z<|.nt<|.sq<|.sr<|.fA Z Fx.field35_0<|.lD Z Fx.agg31 mem1 Z<|.fA Z Fx.field35_0<|.lD Z Fx.agg31 Hm Z<|.yw (.neq Z Z)<|.mv Z<|.b2 (λh32=>?_) (λh32=>?_)
   ·try simp only [dt] at h32
    have e1:=(λe=>h32 (by rw [e]):¬ op0=op1);refine .gG<|.gG<|.gG<|.gG<|.gG<|.yw (.pickT Z Z)<|.mv Z<|.gG<|.gG<|.gG<|.gG<|.gG<|.yw (.pickT Z Z)<|.mv Z<|.gG<|.gG<|.gG<|.gG<|.gG<|.yw (.pickT Z Z)<|.mv Z<|.gG<|.gG<|.gG<|.gG<|.gG<|.yw (.pickT Z Z)<|.mv Z<|.gG<|.gG<|.gG<|.gG<|.gG<|.gG<|.gG<|.yw (.pickT Z Z)<|.mv Z<|.gG<|.gG<|.gG<|.gG<|.gG<|.gG<|.yw (.pickT Z Z)<|.nt<|.cT Z<|.sr<|.az Z<|.tR<|.bR<|.tR<|.tR<|.bR<|.tR<|?_
    refine y9 Z Z λW s=>⟨retB ?_,s.ext⟩
    first
     | (rw [eqP_iff];exact ⟨λ_=>hall,λ_=>rfl⟩)
     | (rw [eqP_iff];exact ⟨λh=>(by cases h),λh=>absurd (hiff.1 h) (by rw [snocF_eq];exact λh=>e1 (h.2.1))⟩)
     | (rw [eqP_iff];exact ⟨λh=>(by cases h),λh=>absurd (hiff.1 h) (by rw [snocF_eq];exact λh=>e2 (h.2.2.1))⟩)
     | (rw [eqP_iff];exact ⟨λh=>(by cases h),λh=>absurd (hiff.1 h) (by rw [snocF_eq];exact λh=>e3 (h.2.2.2.1))⟩)
     | (rw [eqP_iff];exact ⟨λh=>(by cases h),λh=>absurd (hiff.1 h) (by rw [snocF_eq];exact λh=>e4 (h.2.2.2.2.1))⟩)
     | (rw [eqP_iff];exact ⟨λh=>(by cases h),λh=>absurd (hiff.1 h) (by rw [snocF_eq];exact λh=>e5 (h.2.2.2.2.2.1))⟩)
     | (rw [eqP_iff];exact ⟨λh=>(by cases h),λh=>absurd (hiff.1 h) (by rw [snocF_eq];exact λh=>e6 (by rw [h.2.2.2.2.2.2.2]))⟩)
     | (rw [eqP_iff];exact ⟨λh=>(by cases h),λh=>absurd (hiff.1 h) (by rw [snocF_eq];exact λh=>e7 h.2.2.2.2.2.2.1)⟩)
   try simp only [df] at h32
   have e1:=Al_UInt8_toNat_inj.1 (by omega:op0.toNat=op1.toNat);refine .gy (.fieldAddr Z Fx.field35_1)<|.gy (.load Z Fx.agg9 mem1 Z)<|.gy (.fieldAddr Z Fx.field35_1)<|.gy (.load Z Fx.agg9 Hm Z)<|.gy (.neS Z Z)<|.yw (.pickF Z Z)<|.mv Z<|.b2 (λh39=>?_) (λh39=>?_)
   ·try simp only [dt] at h39
    have e2:=(id h39:¬ nm0=nm1);refine .gG<|.gG<|.gG<|.gG<|.gG<|.yw (.pickT Z Z)<|.mv Z<|.gG<|.gG<|.gG<|.gG<|.gG<|.yw (.pickT Z Z)<|.mv Z<|.gG<|.gG<|.gG<|.gG<|.gG<|.yw (.pickT Z Z)<|.mv Z<|.gG<|.gG<|.gG<|.gG<|.gG<|.gG<|.gG<|.yw (.pickT Z Z)<|.mv Z<|.gG<|.gG<|.gG<|.gG<|.gG<|.gG<|.yw (.pickT Z Z)<|.nt<|.cT Z<|.sr<|.az Z<|.tR<|.bR<|.tR<|.tR<|.bR<|.tR<|?_
    refine y9 Z Z λW s=>⟨retB ?_,s.ext⟩
    first
     | (rw [eqP_iff];exact ⟨λ_=>hall,λ_=>rfl⟩)
     | (rw [eqP_iff];exact ⟨λh=>(by cases h),λh=>absurd (hiff.1 h) (by rw [snocF_eq];exact λh=>e1 (h.2.1))⟩)
     | (rw [eqP_iff];exact ⟨λh=>(by cases h),λh=>absurd (hiff.1 h) (by rw [snocF_eq];exact λh=>e2 (h.2.2.1))⟩)
     | (rw [eqP_iff];exact ⟨λh=>(by cases h),λh=>absurd (hiff.1 h) (by rw [snocF_eq];exact λh=>e3 (h.2.2.2.1))⟩)
     | (rw [eqP_iff];exact ⟨λh=>(by cases h),λh=>absurd (hiff.1 h) (by rw [snocF_eq];exact λh=>e4 (h.2.2.2.2.1))⟩)
     | (rw [eqP_iff];exact ⟨λh=>(by cases h),λh=>absurd (hiff.1 h) (by rw [snocF_eq];exact λh=>e5 (h.2.2.2.2.2.1))⟩)
     | (rw [eqP_iff];exact ⟨λh=>(by cases h),λh=>absurd (hiff.1 h) (by rw [snocF_eq];exact λh=>e6 (by rw [h.2.2.2.2.2.2.2]))⟩)
     | (rw [eqP_iff];exact ⟨λh=>(by cases h),λh=>absurd (hiff.1 h) (by rw [snocF_eq];exact λh=>e7 h.2.2.2.2.2.2.1)⟩)
   try simp only [df] at h39
   have e2:=(Al_Classical_not_not.1 h39:nm0=nm1);refine .gy (.fieldAddr Z Fx.field35_2)<|.gy (.load Z Fx.agg9 mem1 Z)<|.gy (.fieldAddr Z Fx.field35_2)<|.gy (.load Z Fx.agg9 Hm Z)<|.gy (.neS Z Z)<|.yw (.pickF Z Z)<|.mv Z<|.b2 (λh46=>?_) (λh46=>?_)
   ·try simp only [dt] at h46
    have e3:=(id h46:¬ fd0=fd1);refine .gG<|.gG<|.gG<|.gG<|.gG<|.yw (.pickT Z Z)<|.mv Z<|.gG<|.gG<|.gG<|.gG<|.gG<|.yw (.pickT Z Z)<|.mv Z<|.gG<|.gG<|.gG<|.gG<|.gG<|.gG<|.gG<|.yw (.pickT Z Z)<|.mv Z<|.gG<|.gG<|.gG<|.gG<|.gG<|.gG<|.yw (.pickT Z Z)<|.nt<|.cT Z<|.sr<|.az Z<|.tR<|.bR<|.tR<|.tR<|.bR<|.tR<|?_
    refine y9 Z Z λW s=>⟨retB ?_,s.ext⟩
    first
     | (rw [eqP_iff];exact ⟨λ_=>hall,λ_=>rfl⟩)
     | (rw [eqP_iff];exact ⟨λh=>(by cases h),λh=>absurd (hiff.1 h) (by rw [snocF_eq];exact λh=>e1 (h.2.1))⟩)
     | (rw [eqP_iff];exact ⟨λh=>(by cases h),λh=>absurd (hiff.1 h) (by rw [snocF_eq];exact λh=>e2 (h.2.2.1))⟩)
     | (rw [eqP_iff];exact ⟨λh=>(by cases h),λh=>absurd (hiff.1 h) (by rw [snocF_eq];exact λh=>e3 (h.2.2.2.1))⟩)
     | (rw [eqP_iff];exact ⟨λh=>(by cases h),λh=>absurd (hiff.1 h) (by rw [snocF_eq];exact λh=>e4 (h.2.2.2.2.1))⟩)
     | (rw [eqP_iff];exact ⟨λh=>(by cases h),λh=>absurd (hiff.1 h) (by rw [snocF_eq];exact λh=>e5 (h.2.2.2.2.2.1))⟩)
     | (rw [eqP_iff];exact ⟨λh=>(by cases h),λh=>absurd (hiff.1 h) (by rw [snocF_eq];exact λh=>e6 (by rw [h.2.2.2.2.2.2.2]))⟩)
     | (rw [eqP_iff];exact ⟨λh=>(by cases h),λh=>absurd (hiff.1 h) (by rw [snocF_eq];exact λh=>e7 h.2.2.2.2.2.2.1)⟩)
   try simp only [df] at h46
   have e3:=(Al_Classical_not_not.1 h46:fd0=fd1);refine .gy (.fieldAddr Z Fx.field35_3)<|.gy (.load Z Fx.agg3 mem1 Z)<|.gy (.fieldAddr Z Fx.field35_3)<|.gy (.load Z Fx.agg3 Hm Z)<|.gy (.neq Z Z)<|.yw (.pickF Z Z)<|.mv Z<|.b2 (λh53=>?_) (λh53=>?_)
   ·try simp only [dt] at h53
    have e4:=(λe=>h53 (by rw [e]):¬ a0=a1);refine .gG<|.gG<|.gG<|.gG<|.gG<|.yw (.pickT Z Z)<|.mv Z<|.gG<|.gG<|.gG<|.gG<|.gG<|.gG<|.gG<|.yw (.pickT Z Z)<|.mv Z<|.gG<|.gG<|.gG<|.gG<|.gG<|.gG<|.yw (.pickT Z Z)<|.nt<|.cT Z<|.sr<|.az Z<|.tR<|.bR<|.tR<|.tR<|.bR<|.tR<|?_
    refine y9 Z Z λW s=>⟨retB ?_,s.ext⟩
    first
     | (rw [eqP_iff];exact ⟨λ_=>hall,λ_=>rfl⟩)
     | (rw [eqP_iff];exact ⟨λh=>(by cases h),λh=>absurd (hiff.1 h) (by rw [snocF_eq];exact λh=>e1 (h.2.1))⟩)
     | (rw [eqP_iff];exact ⟨λh=>(by cases h),λh=>absurd (hiff.1 h) (by rw [snocF_eq];exact λh=>e2 (h.2.2.1))⟩)
     | (rw [eqP_iff];exact ⟨λh=>(by cases h),λh=>absurd (hiff.1 h) (by rw [snocF_eq];exact λh=>e3 (h.2.2.2.1))⟩)
     | (rw [eqP_iff];exact ⟨λh=>(by cases h),λh=>absurd (hiff.1 h) (by rw [snocF_eq];exact λh=>e4 (h.2.2.2.2.1))⟩)
     | (rw [eqP_iff];exact ⟨λh=>(by cases h),λh=>absurd (hiff.1 h) (by rw [snocF_eq];exact λh=>e5 (h.2.2.2.2.2.1))⟩)
     | (rw [eqP_iff];exact ⟨λh=>(by cases h),λh=>absurd (hiff.1 h) (by rw [snocF_eq];exact λh=>e6 (by rw [h.2.2.2.2.2.2.2]))⟩)
     | (rw [eqP_iff];exact ⟨λh=>(by cases h),λh=>absurd (hiff.1 h) (by rw [snocF_eq];exact λh=>e7 h.2.2.2.2.2.2.1)⟩)
   try simp only [df] at h53
   have e4:=Al_Int64_toInt_inj.1 (by omega:a0.toInt=a1.toInt);refine .gy (.fieldAddr Z Fx.field35_4)<|.gy (.load Z Fx.agg3 mem1 Z)<|.gy (.fieldAddr Z Fx.field35_4)<|.gy (.load Z Fx.agg3 Hm Z)<|.gy (.neq Z Z)<|.yw (.pickF Z Z)<|.mv Z<|.b2 (λh60=>?_) (λh60=>?_)
   ·try simp only [dt] at h60
    have e5:=(λe=>h60 (by rw [e]):¬ b0=b1);refine .gG<|.gG<|.gG<|.gG<|.gG<|.gG<|.gG<|.yw (.pickT Z Z)<|.mv Z<|.gG<|.gG<|.gG<|.gG<|.gG<|.gG<|.yw (.pickT Z Z)<|.nt<|.cT Z<|.sr<|.az Z<|.tR<|.bR<|.tR<|.tR<|.bR<|.tR<|?_
    refine y9 Z Z λW s=>⟨retB ?_,s.ext⟩
    first
     | (rw [eqP_iff];exact ⟨λ_=>hall,λ_=>rfl⟩)
     | (rw [eqP_iff];exact ⟨λh=>(by cases h),λh=>absurd (hiff.1 h) (by rw [snocF_eq];exact λh=>e1 (h.2.1))⟩)
     | (rw [eqP_iff];exact ⟨λh=>(by cases h),λh=>absurd (hiff.1 h) (by rw [snocF_eq];exact λh=>e2 (h.2.2.1))⟩)
     | (rw [eqP_iff];exact ⟨λh=>(by cases h),λh=>absurd (hiff.1 h) (by rw [snocF_eq];exact λh=>e3 (h.2.2.2.1))⟩)
     | (rw [eqP_iff];exact ⟨λh=>(by cases h),λh=>absurd (hiff.1 h) (by rw [snocF_eq];exact λh=>e4 (h.2.2.2.2.1))⟩)
     | (rw [eqP_iff];exact ⟨λh=>(by cases h),λh=>absurd (hiff.1 h) (by rw [snocF_eq];exact λh=>e5 (h.2.2.2.2.2.1))⟩)
     | (rw [eqP_iff];exact ⟨λh=>(by cases h),λh=>absurd (hiff.1 h) (by rw [snocF_eq];exact λh=>e6 (by rw [h.2.2.2.2.2.2.2]))⟩)
     | (rw [eqP_iff];exact ⟨λh=>(by cases h),λh=>absurd (hiff.1 h) (by rw [snocF_eq];exact λh=>e7 h.2.2.2.2.2.2.1)⟩)
   try simp only [df] at h60
   have e5:=Al_Int64_toInt_inj.1 (by omega:b0.toInt=b1.toInt);refine .gy (.fieldAddr Z Fx.field35_6)<|.gy (.load Z Fx.agg33 mem1 Z)<|.gy (.lenSl Fx.sl33 Z)<|.gy (.fieldAddr Z Fx.field35_6)<|.gy (.load Z Fx.agg33 Hm Z)<|.gy (.lenSl Fx.sl33 Z)<|.gy (.neq Z Z)<|.yw (.pickF Z Z)<|.mv Z<|.b2 (λh69=>?_) (λh69=>?_)
   ·try simp only [dt] at h69
    have e6:=(λe=>h69 (by rw [e]):¬ args0.length=args1.length);refine .gG<|.gG<|.gG<|.gG<|.gG<|.gG<|.yw (.pickT Z Z)<|.nt<|.cT Z<|.sr<|.az Z<|.tR<|.bR<|.tR<|.tR<|.bR<|.tR<|?_
    refine y9 Z Z λW s=>⟨retB ?_,s.ext⟩
    first
     | (rw [eqP_iff];exact ⟨λ_=>hall,λ_=>rfl⟩)
     | (rw [eqP_iff];exact ⟨λh=>(by cases h),λh=>absurd (hiff.1 h) (by rw [snocF_eq];exact λh=>e1 (h.2.1))⟩)
     | (rw [eqP_iff];exact ⟨λh=>(by cases h),λh=>absurd (hiff.1 h) (by rw [snocF_eq];exact λh=>e2 (h.2.2.1))⟩)
     | (rw [eqP_iff];exact ⟨λh=>(by cases h),λh=>absurd (hiff.1 h) (by rw [snocF_eq];exact λh=>e3 (h.2.2.2.1))⟩)
     | (rw [eqP_iff];exact ⟨λh=>(by cases h),λh=>absurd (hiff.1 h) (by rw [snocF_eq];exact λh=>e4 (h.2.2.2.2.1))⟩)
     | (rw [eqP_iff];exact ⟨λh=>(by cases h),λh=>absurd (hiff.1 h) (by rw [snocF_eq];exact λh=>e5 (h.2.2.2.2.2.1))⟩)
     | (rw [eqP_iff];exact ⟨λh=>(by cases h),λh=>absurd (hiff.1 h) (by rw [snocF_eq];exact λh=>e6 (by rw [h.2.2.2.2.2.2.2]))⟩)
     | (rw [eqP_iff];exact ⟨λh=>(by cases h),λh=>absurd (hiff.1 h) (by rw [snocF_eq];exact λh=>e7 h.2.2.2.2.2.2.1)⟩)
   try simp only [df] at h69
   have e6:=(by omega:args0.length=args1.length);refine .gy (.fieldAddr Z Fx.field35_5)<|.gy (.load Z Fx.agg32 mem1 Z)<|.gy (.fieldAddr Z Fx.field35_5)<|.gy (.load Z Fx.agg32 Hm Z)<|.gy (.call Fx.call51 Z (λW s=>eqFuncE H 52 Fx.call52 ex0 ex1 (λa _=>equalExpr_any H a) _ _ hs0 hs5 W s.agr))<|.gy (.not Z)<|.yw (.pickF Z Z)<|.nt<|.cd Z (λh76=>?_) (λh76=>?_)
   ·try simp only [dt] at h76
    have e7:=eqP_false.1 (by simpa using h76);refine .sr<|.az Z<|.tR<|.bR<|.tR<|.tR<|.bR<|.tR<|?_
    refine y9 Z Z λW s=>⟨retB ?_,s.ext⟩
    first
     | (rw [eqP_iff];exact ⟨λ_=>hall,λ_=>rfl⟩)
     | (rw [eqP_iff];exact ⟨λh=>(by cases h),λh=>absurd (hiff.1 h) (by rw [snocF_eq];exact λh=>e1 (h.2.1))⟩)
     | (rw [eqP_iff];exact ⟨λh=>(by cases h),λh=>absurd (hiff.1 h) (by rw [snocF_eq];exact λh=>e2 (h.2.2.1))⟩)
     | (rw [eqP_iff];exact ⟨λh=>(by cases h),λh=>absurd (hiff.1 h) (by rw [snocF_eq];exact λh=>e3 (h.2.2.2.1))⟩)
     | (rw [eqP_iff];exact ⟨λh=>(by cases h),λh=>absurd (hiff.1 h) (by rw [snocF_eq];exact λh=>e4 (h.2.2.2.2.1))⟩)
     | (rw [eqP_iff];exact ⟨λh=>(by cases h),λh=>absurd (hiff.1 h) (by rw [snocF_eq];exact λh=>e5 (h.2.2.2.2.2.1))⟩)
     | (rw [eqP_iff];exact ⟨λh=>(by cases h),λh=>absurd (hiff.1 h) (by rw [snocF_eq];exact λh=>e6 (by rw [h.2.2.2.2.2.2.2]))⟩)
     | (rw [eqP_iff];exact ⟨λh=>(by cases h),λh=>absurd (hiff.1 h) (by rw [snocF_eq];exact λh=>e7 h.2.2.2.2.2.2.1)⟩)
   try simp only [df] at h76
   have e7:=eqP_iff.1 (by simpa using h76);refine Sx.At.rcut (size:=7) (m:=fs0.length) (ys:=xf.take (fs0.length * 7)) upd2 (by rw [hl0];exact Nat.le_succ _) rfl ?_;refine Sx.At.rcut (size:=7) (m:=gs0.length) (ys:=xg.take (gs0.length * 7)) upd3 (by rw [hl1];exact Nat.le_succ _) rfl ?_;exact .sk<|.tN<|.fL 12 [(0,0),(1,0),(2,0),(3,0),(4,0),(6,0),(7,0),(8,0),(9,0),(10,0),(5,3),(11,3)]<|.mv Z<|.mv Z<|.yw (.cutHi Fx.sl33 Z Z (h:=fs0.length) (by rw [hl0];omega) (by rw [hl0] at hgc;omega) (λq e=>by cases e;rfl))<|.fA Z Fx.field35_6<|.lD Z Fx.agg33 mem1 Z<|.mv Z<|.mv Z<|.yw (.cutHi Fx.sl33 Z Z (h:=gs0.length) (by rw [hl0];omega) (by rw [hl1] at hgd;omega) (λq e=>by cases e;rfl))<|.fA Z Fx.field35_6<|.lD Z Fx.agg33 Hm Z<|.apD Fx.row33 Z (λ_ _=>upd2) Z hs3 (by simp only [maxLen];omega) (by omega) Z (λ_ _=>(.yv (.load Z Fx.agg33 Hm Z)<|.yv (.fieldAddr Z Fx.field35_6)<|.yv (.cutHi Fx.sl33 Z Z (h:=gs0.length) (by rw [hl0];omega) (by rw [hl1] at hgd;omega) (λq e=>by cases e;rfl))<|.yv (.move Z)<|.yv (.move Z)<|.d3<|.d2<|.nl)) λnews pN cN hzn=>.apD Fx.row33 Z (λ_ _=>upd3) Z hs6 (by simp only [maxLen];omega) (by omega) Z (λ_ _=>(.d4<|.d4<|.d2<|.nl)) λmews pM cM hzm=>.fn (tl:=[_,_]) Z<|.a Z Z<|.a Z Z<|.nl<|.bN<|.tN<|.rg<|.mv Z<|.yw (.lenSl Fx.sl33 Z)<|.yw (.sub Z Z (w6 (by omega)))<|.aq Z<|.ag (x:=(n,fs0++[Fm.mk op0 nm0 fd0 a0 b0 ex0 args0],gs0++[Fm.mk op1 nm1 fd1 a1 b1 ex1 args1],Value.slice (some ⟨wf,0,none⟩) (fs0++[Fm.mk op0 nm0 fd0 a0 b0 ex0 args0]).length cf,Value.slice (some ⟨wg,0,none⟩) (gs0++[Fm.mk op1 nm1 fd1 a1 b1 ex1 args1]).length cg,xf,xg)) (n+1,fs0++args0,gs0++args1,Value.slice pN (fs0.length+args0.length) cN,Value.slice pM (gs0.length+args1.length) cM,xf.take (fs0.length * 7)++news,xg.take (gs0.length * 7)++mews) ⟨Z,Z,by dsimp only;exact congrArg (λm:Nat=>some (Value.int .i64 ((m:Int) - 1))) (Al_List_length_append ).symm,Jt⟩ trivial (λ_ s=>by dsimp only;rw [Al_List_length_append,Al_List_length_append];exact (s.pick [2,3,4,5] _ Z Z)) ⟨by rw [Al_List_map_append];exact hz0.app hzn,by rw [Al_List_map_append];exact hz1.app hzm,by dsimp only;rw [Al_List_length_append,Al_List_length_append];omega,by dsimp only;rw [fm_counts_app];omega,λe he=>by rcases Al_List_mem_append.1 he with h | h;exact hbf e (Al_List_mem_append.2 (.inl h));exact hb0.2 e h,by dsimp only;rw [Al_List_length_append,hNs];omega,by dsimp only;exact hiff.trans (snocF_app e1 e2 e3 e4 e5 e6 e7 hle)⟩ (by dsimp only;rw [fm_counts_app,fm_counts_app,Fm.counts,Fm.counts,fm_count];omega)
  refine .al Fx.zero35 Z λb9=>.h1<|.al Fx.zero35 Z λb8=>.h1<|.sW .head Z Z Fx.size35 (by simp [Value.oneCell',strV]) Z ((.yv (.loadR (vs:=cFm .u8 op1 nm1 fd1 a1 b1 (.slice q5 ex1.length d5) (.slice q6 args1.length d6)) Z Fx.agg35 mem3 Z hx1)<|.yv (.indexSl Fx.sl33 Z Z (i:=gs0.length) (by rw [hl0];omega) (by rw [hl1];omega) (q:=gs0.length * 7) (by omega))<|.yv (.move Z)<|.yv (.move Z)<|.d4<|.nl))<|.fn (tl:=[_]) Z<|.sX upd1 Z Z Fx.size35 Z<|.nt<|.sq<|.sr<|.fA Z Fx.field35_0<|.lD Z Fx.agg31 Hm Z<|.fA Z Fx.field35_0<|.lD Z Fx.agg31 mem1 Z<|.yw (.neq Z Z)<|.mv Z<|.b2 (λh32=>?_) (λh32=>?_)
  ·try simp only [dt] at h32
   have e1:=(λe=>h32 (by rw [e]):¬ op0=op1);refine .gG<|.gG<|.gG<|.gG<|.gG<|.yw (.pickT Z Z)<|.mv Z<|.gG<|.gG<|.gG<|.gG<|.gG<|.yw (.pickT Z Z)<|.mv Z<|.gG<|.gG<|.gG<|.gG<|.gG<|.yw (.pickT Z Z)<|.mv Z<|.gG<|.gG<|.gG<|.gG<|.gG<|.yw (.pickT Z Z)<|.mv Z<|.gG<|.gG<|.gG<|.gG<|.gG<|.gG<|.gG<|.yw (.pickT Z Z)<|.mv Z<|.gG<|.gG<|.gG<|.gG<|.gG<|.gG<|.yw (.pickT Z Z)<|.nt<|.cT Z<|.sr<|.az Z<|.tR<|.bR<|.tR<|.tR<|.bR<|.tR<|?_
   refine y9 Z Z λW s=>⟨retB ?_,s.ext⟩
   first
    | (rw [eqP_iff];exact ⟨λ_=>hall,λ_=>rfl⟩)
    | (rw [eqP_iff];exact ⟨λh=>(by cases h),λh=>absurd (hiff.1 h) (by rw [snocF_eq];exact λh=>e1 (h.2.1))⟩)
    | (rw [eqP_iff];exact ⟨λh=>(by cases h),λh=>absurd (hiff.1 h) (by rw [snocF_eq];exact λh=>e2 (h.2.2.1))⟩)
    | (rw [eqP_iff];exact ⟨λh=>(by cases h),λh=>absurd (hiff.1 h) (by rw [snocF_eq];exact λh=>e3 (h.2.2.2.1))⟩)
    | (rw [eqP_iff];exact ⟨λh=>(by cases h),λh=>absurd (hiff.1 h) (by rw [snocF_eq];exact λh=>e4 (h.2.2.2.2.1))⟩)
    | (rw [eqP_iff];exact ⟨λh=>(by cases h),λh=>absurd (hiff.1 h) (by rw [snocF_eq];exact λh=>e5 (h.2.2.2.2.2.1))⟩)
    | (rw [eqP_iff];exact ⟨λh=>(by cases h),λh=>absurd (hiff.1 h) (by rw [snocF_eq];exact λh=>e6 (by rw [h.2.2.2.2.2.2.2]))⟩)
    | (rw [eqP_iff];exact ⟨λh=>(by cases h),λh=>absurd (hiff.1 h) (by rw [snocF_eq];exact λh=>e7 h.2.2.2.2.2.2.1)⟩)
  try simp only [df] at h32
  have e1:=Al_UInt8_toNat_inj.1 (by omega:op0.toNat=op1.toNat);refine .gy (.fieldAddr Z Fx.field35_1)<|.gy (.load Z Fx.agg9 Hm Z)<|.gy (.fieldAddr Z Fx.field35_1)<|.gy (.load Z Fx.agg9 mem1 Z)<|.gy (.neS Z Z)<|.yw (.pickF Z Z)<|.mv Z<|.b2 (λh39=>?_) (λh39=>?_)
  ·try simp only [dt] at h39
   have e2:=(id h39:¬ nm0=nm1);refine .gG<|.gG<|.gG<|.gG<|.gG<|.yw (.pickT Z Z)<|.mv Z<|.gG<|.gG<|.gG<|.gG<|.gG<|.yw (.pickT Z Z)<|.mv Z<|.gG<|.gG<|.gG<|.gG<|.gG<|.yw (.pickT Z Z)<|.mv Z<|.gG<|.gG<|.gG<|.gG<|.gG<|.gG<|.gG<|.yw (.pickT Z Z)<|.mv Z<|.gG<|.gG<|.gG<|.gG<|.gG<|.gG<|.yw (.pickT Z Z)<|.nt<|.cT Z<|.sr<|.az Z<|.tR<|.bR<|.tR<|.tR<|.bR<|.tR<|?_
   refine y9 Z Z λW s=>⟨retB ?_,s.ext⟩
   first
    | (rw [eqP_iff];exact ⟨λ_=>hall,λ_=>rfl⟩)
    | (rw [eqP_iff];exact ⟨λh=>(by cases h),λh=>absurd (hiff.1 h) (by rw [snocF_eq];exact λh=>e1 (h.2.1))⟩)
    | (rw [eqP_iff];exact ⟨λh=>(by cases h),λh=>absurd (hiff.1 h) (by rw [snocF_eq];exact λh=>e2 (h.2.2.1))⟩)
    | (rw [eqP_iff];exact ⟨λh=>(by cases h),λh=>absurd (hiff.1 h) (by rw [snocF_eq];exact λh=>e3 (h.2.2.2.1))⟩)
    | (rw [eqP_iff];exact ⟨λh=>(by cases h),λh=>absurd (hiff.1 h) (by rw [snocF_eq];exact λh=>e4 (h.2.2.2.2.1))⟩)
    | (rw [eqP_iff];exact ⟨λh=>(by cases h),λh=>absurd (hiff.1 h) (by rw [snocF_eq];exact λh=>e5 (h.2.2.2.2.2.1))⟩)
    | (rw [eqP_iff];exact ⟨λh=>(by cases h),λh=>absurd (hiff.1 h) (by rw [snocF_eq];exact λh=>e6 (by rw [h.2.2.2.2.2.2.2]))⟩)
    | (rw [eqP_iff];exact ⟨λh=>(by cases h),λh=>absurd (hiff.1 h) (by rw [snocF_eq];exact λh=>e7 h.2.2.2.2.2.2.1)⟩)
  try simp only [df] at h39
  have e2:=(Al_Classical_not_not.1 h39:nm0=nm1);refine .gy (.fieldAddr Z Fx.field35_2)<|.gy (.load Z Fx.agg9 Hm Z)<|.gy (.fieldAddr Z Fx.field35_2)<|.gy (.load Z Fx.agg9 mem1 Z)<|.gy (.neS Z Z)<|.yw (.pickF Z Z)<|.mv Z<|.b2 (λh46=>?_) (λh46=>?_)
  ·try simp only [dt] at h46
   have e3:=(id h46:¬ fd0=fd1);refine .gG<|.gG<|.gG<|.gG<|.gG<|.yw (.pickT Z Z)<|.mv Z<|.gG<|.gG<|.gG<|.gG<|.gG<|.yw (.pickT Z Z)<|.mv Z<|.gG<|.gG<|.gG<|.gG<|.gG<|.gG<|.gG<|.yw (.pickT Z Z)<|.mv Z<|.gG<|.gG<|.gG<|.gG<|.gG<|.gG<|.yw (.pickT Z Z)<|.nt<|.cT Z<|.sr<|.az Z<|.tR<|.bR<|.tR<|.tR<|.bR<|.tR<|?_
   refine y9 Z Z λW s=>⟨retB ?_,s.ext⟩
   first
    | (rw [eqP_iff];exact ⟨λ_=>hall,λ_=>rfl⟩)
    | (rw [eqP_iff];exact ⟨λh=>(by cases h),λh=>absurd (hiff.1 h) (by rw [snocF_eq];exact λh=>e1 (h.2.1))⟩)
    | (rw [eqP_iff];exact ⟨λh=>(by cases h),λh=>absurd (hiff.1 h) (by rw [snocF_eq];exact λh=>e2 (h.2.2.1))⟩)
    | (rw [eqP_iff];exact ⟨λh=>(by cases h),λh=>absurd (hiff.1 h) (by rw [snocF_eq];exact λh=>e3 (h.2.2.2.1))⟩)
    | (rw [eqP_iff];exact ⟨λh=>(by cases h),λh=>absurd (hiff.1 h) (by rw [snocF_eq];exact λh=>e4 (h.2.2.2.2.1))⟩)
    | (rw [eqP_iff];exact ⟨λh=>(by cases h),λh=>absurd (hiff.1 h) (by rw [snocF_eq];exact λh=>e5 (h.2.2.2.2.2.1))⟩)
    | (rw [eqP_iff];exact ⟨λh=>(by cases h),λh=>absurd (hiff.1 h) (by rw [snocF_eq];exact λh=>e6 (by rw [h.2.2.2.2.2.2.2]))⟩)
    | (rw [eqP_iff];exact ⟨λh=>(by cases h),λh=>absurd (hiff.1 h) (by rw [snocF_eq];exact λh=>e7 h.2.2.2.2.2.2.1)⟩)
  try simp only [df] at h46
  have e3:=(Al_Classical_not_not.1 h46:fd0=fd1);refine .gy (.fieldAddr Z Fx.field35_3)<|.gy (.load Z Fx.agg3 Hm Z)<|.gy (.fieldAddr Z Fx.field35_3)<|.gy (.load Z Fx.agg3 mem1 Z)<|.gy (.neq Z Z)<|.yw (.pickF Z Z)<|.mv Z<|.b2 (λh53=>?_) (λh53=>?_)
  ·try simp only [dt] at h53
   have e4:=(λe=>h53 (by rw [e]):¬ a0=a1);refine .gG<|.gG<|.gG<|.gG<|.gG<|.yw (.pickT Z Z)<|.mv Z<|.gG<|.gG<|.gG<|.gG<|.gG<|.gG<|.gG<|.yw (.pickT Z Z)<|.mv Z<|.gG<|.gG<|.gG<|.gG<|.gG<|.gG<|.yw (.pickT Z Z)<|.nt<|.cT Z<|.sr<|.az Z<|.tR<|.bR<|.tR<|.tR<|.bR<|.tR<|?_
   refine y9 Z Z λW s=>⟨retB ?_,s.ext⟩
   first
    | (rw [eqP_iff];exact ⟨λ_=>hall,λ_=>rfl⟩)
    | (rw [eqP_iff];exact ⟨λh=>(by cases h),λh=>absurd (hiff.1 h) (by rw [snocF_eq];exact λh=>e1 (h.2.1))⟩)
    | (rw [eqP_iff];exact ⟨λh=>(by cases h),λh=>absurd (hiff.1 h) (by rw [snocF_eq];exact λh=>e2 (h.2.2.1))⟩)
    | (rw [eqP_iff];exact ⟨λh=>(by cases h),λh=>absurd (hiff.1 h) (by rw [snocF_eq];exact λh=>e3 (h.2.2.2.1))⟩)
    | (rw [eqP_iff];exact ⟨λh=>(by cases h),λh=>absurd (hiff.1 h) (by rw [snocF_eq];exact λh=>e4 (h.2.2.2.2.1))⟩)
    | (rw [eqP_iff];exact ⟨λh=>(by cases h),λh=>absurd (hiff.1 h) (by rw [snocF_eq];exact λh=>e5 (h.2.2.2.2.2.1))⟩)
    | (rw [eqP_iff];exact ⟨λh=>(by cases h),λh=>absurd (hiff.1 h) (by rw [snocF_eq];exact λh=>e6 (by rw [h.2.2.2.2.2.2.2]))⟩)
    | (rw [eqP_iff];exact ⟨λh=>(by cases h),λh=>absurd (hiff.1 h) (by rw [snocF_eq];exact λh=>e7 h.2.2.2.2.2.2.1)⟩)
  try simp only [df] at h53
  have e4:=Al_Int64_toInt_inj.1 (by omega:a0.toInt=a1.toInt);refine .gy (.fieldAddr Z Fx.field35_4)<|.gy (.load Z Fx.agg3 Hm Z)<|.gy (.fieldAddr Z Fx.field35_4)<|.gy (.load Z Fx.agg3 mem1 Z)<|.gy (.neq Z Z)<|.yw (.pickF Z Z)<|.mv Z<|.b2 (λh60=>?_) (λh60=>?_)
  ·try simp only [dt] at h60
   have e5:=(λe=>h60 (by rw [e]):¬ b0=b1);refine .gG<|.gG<|.gG<|.gG<|.gG<|.gG<|.gG<|.yw (.pickT Z Z)<|.mv Z<|.gG<|.gG<|.gG<|.gG<|.gG<|.gG<|.yw (.pickT Z Z)<|.nt<|.cT Z<|.sr<|.az Z<|.tR<|.bR<|.tR<|.tR<|.bR<|.tR<|?_
   refine y9 Z Z λW s=>⟨retB ?_,s.ext⟩
   first
    | (rw [eqP_iff];exact ⟨λ_=>hall,λ_=>rfl⟩)
    | (rw [eqP_iff];exact ⟨λh=>(by cases h),λh=>absurd (hiff.1 h) (by rw [snocF_eq];exact λh=>e1 (h.2.1))⟩)
    | (rw [eqP_iff];exact ⟨λh=>(by cases h),λh=>absurd (hiff.1 h) (by rw [snocF_eq];exact λh=>e2 (h.2.2.1))⟩)
    | (rw [eqP_iff];exact ⟨λh=>(by cases h),λh=>absurd (hiff.1 h) (by rw [snocF_eq];exact λh=>e3 (h.2.2.2.1))⟩)
    | (rw [eqP_iff];exact ⟨λh=>(by cases h),λh=>absurd (hiff.1 h) (by rw [snocF_eq];exact λh=>e4 (h.2.2.2.2.1))⟩)
    | (rw [eqP_iff];exact ⟨λh=>(by cases h),λh=>absurd (hiff.1 h) (by rw [snocF_eq];exact λh=>e5 (h.2.2.2.2.2.1))⟩)
    | (rw [eqP_iff];exact ⟨λh=>(by cases h),λh=>absurd (hiff.1 h) (by rw [snocF_eq];exact λh=>e6 (by rw [h.2.2.2.2.2.2.2]))⟩)
    | (rw [eqP_iff];exact ⟨λh=>(by cases h),λh=>absurd (hiff.1 h) (by rw [snocF_eq];exact λh=>e7 h.2.2.2.2.2.2.1)⟩)
  try simp only [df] at h60
  have e5:=Al_Int64_toInt_inj.1 (by omega:b0.toInt=b1.toInt);refine .gy (.fieldAddr Z Fx.field35_6)<|.gy (.load Z Fx.agg33 Hm Z)<|.gy (.lenSl Fx.sl33 Z)<|.gy (.fieldAddr Z Fx.field35_6)<|.gy (.load Z Fx.agg33 mem1 Z)<|.gy (.lenSl Fx.sl33 Z)<|.gy (.neq Z Z)<|.yw (.pickF Z Z)<|.mv Z<|.b2 (λh69=>?_) (λh69=>?_)
  ·try simp only [dt] at h69
   have e6:=(λe=>h69 (by rw [e]):¬ args0.length=args1.length);refine .gG<|.gG<|.gG<|.gG<|.gG<|.gG<|.yw (.pickT Z Z)<|.nt<|.cT Z<|.sr<|.az Z<|.tR<|.bR<|.tR<|.tR<|.bR<|.tR<|?_
   refine y9 Z Z λW s=>⟨retB ?_,s.ext⟩
   first
    | (rw [eqP_iff];exact ⟨λ_=>hall,λ_=>rfl⟩)
    | (rw [eqP_iff];exact ⟨λh=>(by cases h),λh=>absurd (hiff.1 h) (by rw [snocF_eq];exact λh=>e1 (h.2.1))⟩)
    | (rw [eqP_iff];exact ⟨λh=>(by cases h),λh=>absurd (hiff.1 h) (by rw [snocF_eq];exact λh=>e2 (h.2.2.1))⟩)
    | (rw [eqP_iff];exact ⟨λh=>(by cases h),λh=>absurd (hiff.1 h) (by rw [snocF_eq];exact λh=>e3 (h.2.2.2.1))⟩)
    | (rw [eqP_iff];exact ⟨λh=>(by cases h),λh=>absurd (hiff.1 h) (by rw [snocF_eq];exact λh=>e4 (h.2.2.2.2.1))⟩)
    | (rw [eqP_iff];exact ⟨λh=>(by cases h),λh=>absurd (hiff.1 h) (by rw [snocF_eq];exact λh=>e5 (h.2.2.2.2.2.1))⟩)
    | (rw [eqP_iff];exact ⟨λh=>(by cases h),λh=>absurd (hiff.1 h) (by rw [snocF_eq];exact λh=>e6 (by rw [h.2.2.2.2.2.2.2]))⟩)
    | (rw [eqP_iff];exact ⟨λh=>(by cases h),λh=>absurd (hiff.1 h) (by rw [snocF_eq];exact λh=>e7 h.2.2.2.2.2.2.1)⟩)
  try simp only [df] at h69
  have e6:=(by omega:args0.length=args1.length);refine .gy (.fieldAddr Z Fx.field35_5)<|.gy (.load Z Fx.agg32 Hm Z)<|.gy (.fieldAddr Z Fx.field35_5)<|.gy (.load Z Fx.agg32 mem1 Z)<|.gy (.call Fx.call51 Z (λW s=>eqFuncE H 52 Fx.call52 ex0 ex1 (λa _=>equalExpr_any H a) _ _ hs0 hs5 W s.agr))<|.gy (.not Z)<|.yw (.pickF Z Z)<|.nt<|.cd Z (λh76=>?_) (λh76=>?_)
  ·try simp only [dt] at h76
   have e7:=eqP_false.1 (by simpa using h76);refine .sr<|.az Z<|.tR<|.bR<|.tR<|.tR<|.bR<|.tR<|?_
   refine y9 Z Z λW s=>⟨retB ?_,s.ext⟩
   first
    | (rw [eqP_iff];exact ⟨λ_=>hall,λ_=>rfl⟩)
    | (rw [eqP_iff];exact ⟨λh=>(by cases h),λh=>absurd (hiff.1 h) (by rw [snocF_eq];exact λh=>e1 (h.2.1))⟩)
    | (rw [eqP_iff];exact ⟨λh=>(by cases h),λh=>absurd (hiff.1 h) (by rw [snocF_eq];exact λh=>e2 (h.2.2.1))⟩)
    | (rw [eqP_iff];exact ⟨λh=>(by cases h),λh=>absurd (hiff.1 h) (by rw [snocF_eq];exact λh=>e3 (h.2.2.2.1))⟩)
    | (rw [eqP_iff];exact ⟨λh=>(by cases h),λh=>absurd (hiff.1 h) (by rw [snocF_eq];exact λh=>e4 (h.2.2.2.2.1))⟩)
    | (rw [eqP_iff];exact ⟨λh=>(by cases h),λh=>absurd (hiff.1 h) (by rw [snocF_eq];exact λh=>e5 (h.2.2.2.2.2.1))⟩)
    | (rw [eqP_iff];exact ⟨λh=>(by cases h),λh=>absurd (hiff.1 h) (by rw [snocF_eq];exact λh=>e6 (by rw [h.2.2.2.2.2.2.2]))⟩)
    | (rw [eqP_iff];exact ⟨λh=>(by cases h),λh=>absurd (hiff.1 h) (by rw [snocF_eq];exact λh=>e7 h.2.2.2.2.2.2.1)⟩)
  try simp only [df] at h76
  have e7:=eqP_iff.1 (by simpa using h76);refine Sx.At.rcut (size:=7) (m:=fs0.length) (ys:=xf.take (fs0.length * 7)) upd2 (by rw [hl0];exact Nat.le_succ _) rfl ?_;refine Sx.At.rcut (size:=7) (m:=gs0.length) (ys:=xg.take (gs0.length * 7)) upd3 (by rw [hl1];exact Nat.le_succ _) rfl ?_;exact .sk<|.tN<|.fL 12 [(0,0),(1,0),(2,0),(3,0),(4,0),(6,0),(7,0),(8,0),(9,0),(10,0),(5,3),(11,3)]<|.mv Z<|.mv Z<|.yw (.cutHi Fx.sl33 Z Z (h:=fs0.length) (by rw [hl0];omega) (by rw [hl0] at hgc;omega) (λq e=>by cases e;rfl))<|.fA Z Fx.field35_6<|.lD Z Fx.agg33 Hm Z<|.mv Z<|.mv Z<|.yw (.cutHi Fx.sl33 Z Z (h:=gs0.length) (by rw [hl0];omega) (by rw [hl1] at hgd;omega) (λq e=>by cases e;rfl))<|.fA Z Fx.field35_6<|.lD Z Fx.agg33 mem1 Z<|.apD Fx.row33 Z (λ_ _=>upd2) Z hs3 (by simp only [maxLen];omega) (by omega) Z (λ_ _=>(.yv (.load Z Fx.agg33 mem1 Z)<|.yv (.fieldAddr Z Fx.field35_6)<|.yv (.cutHi Fx.sl33 Z Z (h:=gs0.length) (by rw [hl0];omega) (by rw [hl1] at hgd;omega) (λq e=>by cases e;rfl))<|.yv (.move Z)<|.yv (.move Z)<|.d3<|.d2<|.nl)) λnews pN cN hzn=>.apD Fx.row33 Z (λ_ _=>upd3) Z hs6 (by simp only [maxLen];omega) (by omega) Z (λ_ _=>(.d4<|.d4<|.d2<|.nl)) λmews pM cM hzm=>.fn (tl:=[_,_]) Z<|.a Z Z<|.a Z Z<|.nl<|.bN<|.tN<|.rg<|.mv Z<|.yw (.lenSl Fx.sl33 Z)<|.yw (.sub Z Z (w6 (by omega)))<|.aq Z<|.ag (x:=(n,fs0++[Fm.mk op0 nm0 fd0 a0 b0 ex0 args0],gs0++[Fm.mk op1 nm1 fd1 a1 b1 ex1 args1],Value.slice (some ⟨wf,0,none⟩) (fs0++[Fm.mk op0 nm0 fd0 a0 b0 ex0 args0]).length cf,Value.slice (some ⟨wg,0,none⟩) (gs0++[Fm.mk op1 nm1 fd1 a1 b1 ex1 args1]).length cg,xf,xg)) (n+1,fs0++args0,gs0++args1,Value.slice pN (fs0.length+args0.length) cN,Value.slice pM (gs0.length+args1.length) cM,xf.take (fs0.length * 7)++news,xg.take (gs0.length * 7)++mews) ⟨Z,Z,by dsimp only;exact congrArg (λm:Nat=>some (Value.int .i64 ((m:Int) - 1))) (Al_List_length_append ).symm,Jt⟩ trivial (λ_ s=>by dsimp only;rw [Al_List_length_append,Al_List_length_append];exact (s.pick [2,3,4,5] _ Z Z)) ⟨by rw [Al_List_map_append];exact hz0.app hzn,by rw [Al_List_map_append];exact hz1.app hzm,by dsimp only;rw [Al_List_length_append,Al_List_length_append];omega,by dsimp only;rw [fm_counts_app];omega,λe he=>by rcases Al_List_mem_append.1 he with h | h;exact hbf e (Al_List_mem_append.2 (.inl h));exact hb0.2 e h,by dsimp only;rw [Al_List_length_append,hNs];omega,by dsimp only;exact hiff.trans (snocF_app e1 e2 e3 e4 e5 e6 e7 hle)⟩ (by dsimp only;rw [fm_counts_app,fm_counts_app,Fm.counts,Fm.counts,fm_count];omega)
 try simp only [df] at h15
 have hfs:fs=[]:=Al_List_eq_nil_of_length_eq_zero (by omega);have hgs:gs=[]:=Al_List_eq_nil_of_length_eq_zero (by omega);have hall:=hiff.2 (by rw [hfs,hgs]);refine .ex<|.eb<|.sr<|.az Z<|?_
 refine y9 Z Z λW s=>⟨retB ?_,s.ext⟩
 first
  | (rw [eqP_iff];exact ⟨λ_=>hall,λ_=>rfl⟩)
  | (rw [eqP_iff];exact ⟨λh=>(by cases h),λh=>absurd (hiff.1 h) (by rw [snocF_eq];exact λh=>e1 (h.2.1))⟩)
  | (rw [eqP_iff];exact ⟨λh=>(by cases h),λh=>absurd (hiff.1 h) (by rw [snocF_eq];exact λh=>e2 (h.2.2.1))⟩)
  | (rw [eqP_iff];exact ⟨λh=>(by cases h),λh=>absurd (hiff.1 h) (by rw [snocF_eq];exact λh=>e3 (h.2.2.2.1))⟩)
  | (rw [eqP_iff];exact ⟨λh=>(by cases h),λh=>absurd (hiff.1 h) (by rw [snocF_eq];exact λh=>e4 (h.2.2.2.2.1))⟩)
  | (rw [eqP_iff];exact ⟨λh=>(by cases h),λh=>absurd (hiff.1 h) (by rw [snocF_eq];exact λh=>e5 (h.2.2.2.2.2.1))⟩)
  | (rw [eqP_iff];exact ⟨λh=>(by cases h),λh=>absurd (hiff.1 h) (by rw [snocF_eq];exact λh=>e6 (by rw [h.2.2.2.2.2.2.2]))⟩)
  | (rw [eqP_iff];exact ⟨λh=>(by cases h),λh=>absurd (hiff.1 h) (by rw [snocF_eq];exact λh=>e7 h.2.2.2.2.2.2.1)⟩)
theorem tmTs_map:∀ l,tmTs l=l.map λe=>(e.op,tmT e)
 | []=>by rw [tmTs];rfl
 | e::r=>by rw [tmTs,tmTs_map r];rfl
theorem fmTs_map:∀ l,fmTs l=l.map λf=>(f.op,fmT f)
 | []=>by rw [fmTs];rfl
 | e::r=>by rw [fmTs,fmTs_map r];rfl
theorem tm_mk {op:UInt8} {nm:Str} {n:Int64} {args:List Ex} :tmT (.mk op nm n args)=tmOp op nm n (args.map λe=>(e.op,tmT e)):=by rw [tmT,tmTs_map]
theorem fm_mk {op:UInt8} {nm fd:Str} {b:Int64} {ex:List Ex} {args:List Fm} :fmT (.mk op nm fd a b ex args)=fmOp (.mk op nm fd a b ex args) (args.map λf=>(f.op,fmT f)):=by rw [fmT,fmTs_map]
theorem hd0 {α β:Type} {f:α->β} {l:List α} {d:β} (h:0<l.length):(l.map f).headD d=f l[0]:=by
 cases l with
 | nil=>exact absurd h (Nat.lt_irrefl _)
 | cons a r=>rfl
theorem hd1 {α β:Type} {f:α->β} {l:List α} {d:β} (h:1<l.length):((l.map f).drop 1).headD d=f l[1]:=by
 match l,h with
 | _::b::r,_=>rfl
theorem tlv4 {op:UInt8} (h:op=14\/op=15):tlv op=4:=by unfold tlv;rw [Al_if_pos h]
theorem tlv5 {op:UInt8} (h:op=11\/op=12\/op=13):tlv op=5:=by unfold tlv;rw [Al_if_neg (by rcases h with rfl | rfl | rfl <;> decide),Al_if_pos h]
theorem tlv6 {op:UInt8} (h:op=9):tlv op=6:=by subst h;rfl
theorem tlv7 {op:UInt8} (h1:¬ op=14) (h2:¬ op=15) (h3:¬ op=11) (h4:¬ op=12) (h5:¬ op=13) (h6:¬ op=9):tlv op=7:=by
 unfold tlv;rw [Al_if_neg (by rintro (h | h);exact h1 h;exact h2 h),Al_if_neg (by rintro (h | h | h);exact h3 h;exact h4 h;exact h5 h),Al_if_neg h6]
theorem tlv_le (op:UInt8):tlv op<=7:=by
 unfold tlv
 repeat' split
 all_goals omega
section
variable {op:UInt8} {nm:Str} {n:Int64} {args:List Ex}
theorem tm1 (h:op=1):tmT (.mk op nm n args)=Lib.itoa n.toInt:=by rw [tm_mk];subst h;rfl
theorem tm4 (h:op=4):tmT (.mk op nm n args)=[110,111,119]:=by rw [tm_mk];subst h;rfl
theorem tm5 (h:op=5):tmT (.mk op nm n args)=nm:=by rw [tm_mk];subst h;rfl
theorem tm6 (h:op=6) (h0:0<args.length):tmT (.mk op nm n args)=(nm++([91]:Str)++tmT args[0]++([93]:Str):Str):=by
 rw [tm_mk];subst h;show (nm++([91]:Str)++_++([93]:Str):Str)=_;rw [hd0 h0]
theorem tm8 (h:op=8):tmT (.mk op nm n args)=(([115,105,122,101,32]:Str)++nm):=by rw [tm_mk];subst h;rfl
theorem tm9 (h:op=9) (h0:0<args.length):tmT (.mk op nm n args)=(([45]:Str)++prnT (decide (tlv args[0].op<6)) (tmT args[0]):Str):=by
 rw [tm_mk];subst h;show (([45]:Str)++prnT _ _:Str)=_;rw [hd0 h0]
theorem tmb (h:op=11\/op=12\/op=13\/op=14\/op=15) (h0:0<args.length) (h1:1<args.length):tmT (.mk op nm n args)=(prnT (decide (tlv args[0].op<tlv op)) (tmT args[0])++([32]:Str)++symT op++([32]:Str)++prnT (decide (tlv args[1].op<tlv op+1)) (tmT args[1]):Str):=by
 rw [tm_mk];unfold tmOp;rw [hd0 h0,hd1 h1];rcases h with rfl | rfl | rfl | rfl | rfl <;> rfl
theorem tmn (h1:¬ op=1) (h4:¬ op=4) (h5:¬ op=5) (h6:¬ op=6) (h8:¬ op=8) (h9:¬ op=9) (hb:¬ (op=11\/op=12\/op=13\/op=14\/op=15)):tmT (.mk op nm n args)=[95]:=by
 rw [tm_mk];unfold tmOp;rw [Al_if_neg h1,Al_if_neg h4,Al_if_neg h5,Al_if_neg h6,Al_if_neg h8,Al_if_neg h9,Al_if_neg hb]
end
theorem prnT_len (b:Bool) (s:Str):s.length<=(prnT b s).length/\(prnT b s).length<=s.length+2:=by
 unfold prnT;cases b
 ·rw [Al_if_neg (by decide)];omega
 ·rw [Al_if_pos rfl];simp only [Al_List_length_append,Al_List_length_cons,Al_List_length_nil];omega
variable {m:Nat}
theorem tab_len {l:List Str} (h:∀ x∈l,x.length<=m) (i:Nat):(l.getD i []).length<=m:=by
 rw [List.getD_eq_getElem?_getD];cases e:l[i]? with
 | none=>exact Al_Nat_zero_le _
 | some x=>exact h x (Al_List_mem_of_getElem? e)
theorem symT_len (op:UInt8):(symT op).length<=2:=tab_len (l:=fsyms) (by decide) _
theorem wordF_len (op:UInt8):(wordF op).length<=8:=tab_len (l:=fwords) (by decide) _
theorem term_args1 {op:UInt8} {nm:Str} {n:Int64} {args:List Ex} (h:op=6\/op=9) (hT:termB (.mk op nm n args)=true):args.length=1/\∀ a∈args,termB a=true:=by
 rw [term_rec,Al_Bool_and_eq_true,Al_List_all_eq_true] at hT;refine ⟨?_,hT.2⟩;have h1:=hT.1;unfold trmB at h1;simp only [Al_Bool_and_eq_true,Al_decide_eq_true_eq] at h1;have h2:=h1.1.1.1.2;rcases h with rfl | rfl
 ·exact Int.ofNat_inj.1 (h2.symm.trans (by decide))
 ·exact Int.ofNat_inj.1 (h2.symm.trans (by decide))
theorem term_args2 {op:UInt8} {nm:Str} {n:Int64} {args:List Ex} (h:op=11\/op=12\/op=13\/op=14\/op=15) (hT:termB (.mk op nm n args)=true):args.length=2/\∀ a∈args,termB a=true:=by
 rw [term_rec,Al_Bool_and_eq_true,Al_List_all_eq_true] at hT;refine ⟨?_,hT.2⟩;have h1:=hT.1;unfold trmB at h1;simp only [Al_Bool_and_eq_true,Al_decide_eq_true_eq] at h1;have h2:=h1.1.1.1.2;rcases h with rfl | rfl | rfl | rfl | rfl <;> exact Int.ofNat_inj.1 (h2.symm.trans (by decide))
def nlE (e:Ex):Bool:=Ex.all (λe=>decide (e.nm.length<=1000000)) e
theorem tmT_len (e:Ex) (hn:nlE e=true):(tmT e).length<=1000100 * e.count:=by
 induction e using Ex.ind with | _ op nm n args ih
 unfold nlE at hn;rw [all_mk,alls_allE,Al_Bool_and_eq_true,Al_decide_eq_true_eq,Al_List_all_eq_true] at hn;obtain ⟨hn,ha⟩:=hn;have hn':nm.length<=1000000:=hn
 have hx:∀ (l:List (UInt8 × Str)),l=args.map (λe=>(e.op,tmT e))->(l.headD (0,[])).2.length+((l.drop 1).headD (0,[])).2.length<=1000100 * Ex.counts args:=by
  rintro l rfl
  match args,ih,ha with
  | [],_,_=>exact Al_Nat_zero_le _
  | [a],ih,ha =>
   have:=ih a (Al_List_mem_cons_self ..) (ha a (Al_List_mem_cons_self ..));rw [Ex.counts,Ex.counts];show (tmT a).length+0<=_;omega
  | a::b::r,ih,ha =>
   have h1:=ih a (Al_List_mem_cons_self ..) (ha a (Al_List_mem_cons_self ..));have h2:=ih b (Al_List_mem_cons_of_mem _ (Al_List_mem_cons_self ..)) (ha b (Al_List_mem_cons_of_mem _ (Al_List_mem_cons_self ..)));rw [Ex.counts,Ex.counts];show (tmT a).length+(tmT b).length<=_;omega
 have hx:=hx _ rfl;rw [ex_count,tm_mk];unfold tmOp;generalize args.map (λe=>(e.op,tmT e))=l at hx|-;have hi:=itoa_len n;have p1:=(prnT_len (decide (tlv (l.headD (0,[])).1<6)) (l.headD (0,[])).2).2;have p2:=(prnT_len (decide (tlv (l.headD (0,[])).1<tlv op)) (l.headD (0,[])).2).2;have p3:=(prnT_len (decide (tlv ((l.drop 1).headD (0,[])).1<tlv op+1)) ((l.drop 1).headD (0,[])).2).2;have p4:=symT_len op;generalize Ex.counts args=C at hx|-
 repeat' split
 all_goals (try simp only [Al_List_length_append,Al_List_length_cons,Al_List_length_nil]);omega
def Gq (H:Hp):Prop:=∀ W,Agr H W->Lib.TabIs prg W "internal/strconv.uint64pow10" .u64 Lib.pow10Tab
variable {H H':Hp}
theorem Gq.up (g:Gq H) (u:Up H H'):Gq H':=λW a=>g W ⟨λb o e=>a b o (u b o e),u.lo ▸ a.lo⟩
theorem ext_grow {w:World} (os:Array Obj):Ext w (Sort.grow w os) :=
 Ext.of_below ⟨Z,Z,Z,by simp [Sort.grow],λk hk=>by simp [Sort.grow,Array.getElem?_append,hk]⟩
theorem formatInt_any (H:Hp) (g:Gq H) (n:Int64) (w:World) (hA:Agr H w):Calls prg 138 #[.int .i64 n.toInt,.int .i64 10] w λr w'=>r=.returned (strV (Lib.itoa n.toInt))/\Ext w w' :=
 (Tryz.strconv_FormatInt_10 n.toInt (by have:=n.le_toInt;omega) (by have:=n.toInt_lt;omega) w (g w hA)).mono λ_ _ ⟨he,k,os,hw⟩=>⟨he,hw ▸ ((Ext.refl w).drewN k).trans (ext_grow os)⟩
theorem itoa_any (H:Hp) (g:Gq H) (n:Int64) (w:World) (hA:Agr H w):Calls prg 144 #[.int .i64 n.toInt] w λr w'=>r=.returned (strV (Lib.itoa n.toInt))/\Ext w w' :=
 (Tryz.strconv_Itoa n.toInt (by have:=n.le_toInt;omega) (by have:=n.toInt_lt;omega) w (g w hA)).mono λ_ _ ⟨he,k,os,hw⟩=>⟨he,hw ▸ ((Ext.refl w).drewN k).trans (ext_grow os)⟩
theorem tlv_any (H:Hp) (op:UInt8) (w:World) (hA:Agr H w):Calls prg 140 #[.int .u8 op.toNat] w λr w'=>r=.returned (iN (tlv op))/\Ext w w':=by
 refine Sx.enter (H:=H) func140 rfl ntmps140 rfl hA ?_;refine .sr<|.aq Z<|.sq<|.sm Z<|.nt<|.bk<|.sq<|.sr<|.yw (.eql Z Z)<|.aq Z<|.cr Z (λh4=>?_) (λh4=>?_)
 ·have qa:op=14:=Al_UInt8_toNat_inj.1 (by have:=Al_of_decide_eq_true h4;show op.toNat=14;omega);refine .sk<|.tN<|.cT Z<|.sr<|.az Z<|.bR<|.tR<|?_
  refine y9 Z Z λW s=>⟨?_,s.ext⟩
  first
   | (rw [tlv4 (.inl qa)];rfl)
   | (rw [tlv4 (.inr qa)];rfl)
   | (rw [tlv5 (.inl qb)];rfl)
   | (rw [tlv5 (.inr (.inl qb))];rfl)
   | (rw [tlv5 (.inr (.inr qb))];rfl)
   | (rw [tlv6 q9];rfl)
   | (rw [tlv7 qa14 qa15 qb11 qb12 qb13 q9];rfl)
 have qa14:¬ op=14:=λe=>Al_of_decide_eq_false h4 (by rw [e];rfl);refine .rg<|.yw (.eql Z Z)<|.aq Z<|.cr Z (λh4=>?_) (λh4=>?_)
 ·have qa:op=15:=Al_UInt8_toNat_inj.1 (by have:=Al_of_decide_eq_true h4;show op.toNat=15;omega);refine .sr<|.az Z<|.bR<|.tR<|?_
  refine y9 Z Z λW s=>⟨?_,s.ext⟩
  first
   | (rw [tlv4 (.inl qa)];rfl)
   | (rw [tlv4 (.inr qa)];rfl)
   | (rw [tlv5 (.inl qb)];rfl)
   | (rw [tlv5 (.inr (.inl qb))];rfl)
   | (rw [tlv5 (.inr (.inr qb))];rfl)
   | (rw [tlv6 q9];rfl)
   | (rw [tlv7 qa14 qa15 qb11 qb12 qb13 q9];rfl)
 have qa15:¬ op=15:=λe=>Al_of_decide_eq_false h4 (by rw [e];rfl);refine .sq<|.sr<|.yw (.eql Z Z)<|.aq Z<|.cr Z (λh7=>?_) (λh7=>?_)
 ·have qb:op=11:=Al_UInt8_toNat_inj.1 (by have:=Al_of_decide_eq_true h7;show op.toNat=11;omega);refine .sk<|.tN<|.cT Z<|.sr<|.az Z<|.bR<|.tR<|?_
  refine y9 Z Z λW s=>⟨?_,s.ext⟩
  first
   | (rw [tlv4 (.inl qa)];rfl)
   | (rw [tlv4 (.inr qa)];rfl)
   | (rw [tlv5 (.inl qb)];rfl)
   | (rw [tlv5 (.inr (.inl qb))];rfl)
   | (rw [tlv5 (.inr (.inr qb))];rfl)
   | (rw [tlv6 q9];rfl)
   | (rw [tlv7 qa14 qa15 qb11 qb12 qb13 q9];rfl)
 have qb11:¬ op=11:=λe=>Al_of_decide_eq_false h7 (by rw [e];rfl);refine .sr<|.yw (.eql Z Z)<|.aq Z<|.cr Z (λh7=>?_) (λh7=>?_)
 ·have qb:op=12:=Al_UInt8_toNat_inj.1 (by have:=Al_of_decide_eq_true h7;show op.toNat=12;omega);refine .sk<|.tN<|.cT Z<|.sr<|.az Z<|.bR<|.tR<|?_
  refine y9 Z Z λW s=>⟨?_,s.ext⟩
  first
   | (rw [tlv4 (.inl qa)];rfl)
   | (rw [tlv4 (.inr qa)];rfl)
   | (rw [tlv5 (.inl qb)];rfl)
   | (rw [tlv5 (.inr (.inl qb))];rfl)
   | (rw [tlv5 (.inr (.inr qb))];rfl)
   | (rw [tlv6 q9];rfl)
   | (rw [tlv7 qa14 qa15 qb11 qb12 qb13 q9];rfl)
 have qb12:¬ op=12:=λe=>Al_of_decide_eq_false h7 (by rw [e];rfl);refine .rg<|.yw (.eql Z Z)<|.aq Z<|.cr Z (λh7=>?_) (λh7=>?_)
 ·have qb:op=13:=Al_UInt8_toNat_inj.1 (by have:=Al_of_decide_eq_true h7;show op.toNat=13;omega);refine .sr<|.az Z<|.bR<|.tR<|?_
  refine y9 Z Z λW s=>⟨?_,s.ext⟩
  first
   | (rw [tlv4 (.inl qa)];rfl)
   | (rw [tlv4 (.inr qa)];rfl)
   | (rw [tlv5 (.inl qb)];rfl)
   | (rw [tlv5 (.inr (.inl qb))];rfl)
   | (rw [tlv5 (.inr (.inr qb))];rfl)
   | (rw [tlv6 q9];rfl)
   | (rw [tlv7 qa14 qa15 qb11 qb12 qb13 q9];rfl)
 have qb13:¬ op=13:=λe=>Al_of_decide_eq_false h7 (by rw [e];rfl);refine .sr<|.yw (.eql Z Z)<|.aq Z<|.cd Z (λh11=>?_) (λh11=>?_)
 ·have q9:op=9:=Al_UInt8_toNat_inj.1 (by have:=Al_of_decide_eq_true h11;show op.toNat=9;omega);refine .sr<|.az Z<|.bR<|.tR<|?_
  refine y9 Z Z λW s=>⟨?_,s.ext⟩
  first
   | (rw [tlv4 (.inl qa)];rfl)
   | (rw [tlv4 (.inr qa)];rfl)
   | (rw [tlv5 (.inl qb)];rfl)
   | (rw [tlv5 (.inr (.inl qb))];rfl)
   | (rw [tlv5 (.inr (.inr qb))];rfl)
   | (rw [tlv6 q9];rfl)
   | (rw [tlv7 qa14 qa15 qb11 qb12 qb13 q9];rfl)
 have q9:¬ op=9:=λe=>Al_of_decide_eq_false h11 (by rw [e];rfl);refine .sk<|.bN<|.tN<|.sr<|.az Z<|?_
 refine y9 Z Z λW s=>⟨?_,s.ext⟩
 first
  | (rw [tlv4 (.inl qa)];rfl)
  | (rw [tlv4 (.inr qa)];rfl)
  | (rw [tlv5 (.inl qb)];rfl)
  | (rw [tlv5 (.inr (.inl qb))];rfl)
  | (rw [tlv5 (.inr (.inr qb))];rfl)
  | (rw [tlv6 q9];rfl)
  | (rw [tlv7 qa14 qa15 qb11 qb12 qb13 q9];rfl)
theorem termOperand_any (H:Hp) (e:Ex) (k:Nat) (ht:(∀ (cs:List Value) (W:World),Rep H (dEx .u8 e) cs->termB e=true\/Ex.op e=0->(tmT e).length<=1000000000->Agr H W->Calls prg 89 #[.agg cs.toArray] W λr W'=>r=.returned (strV (tmT e))/\Ext W W')) (cs:List Value) (w:World) (h:Rep H (dEx .u8 e) cs) (hok:termB e=true\/e.op=0) (hl:(tmT e).length<=1000000000) (hA:Agr H w) :
 Calls prg 139 #[.agg cs.toArray,iN k] w λr w'=>r=.returned (strV (prnT (decide (tlv e.op<k)) (tmT e)))/\Ext w w':=by
 obtain ⟨op,nm,nn,args⟩:=e;obtain ⟨pp,c,rfl,hs,hnm⟩:=ex_open h;refine Sx.enter (H:=H) func139 rfl ntmps139 rfl hA ?_;refine .sr<|.bx Z Z Z λb2=>.aq Z<|.sq<|.sr<|.fA Z Fx.field76_0<|.lD Z Fx.agg74 Hm Z<|.yw (.call Fx.call140 Z (λW s=>tlv_any H op W s.agr))<|.mv Z<|.yw (.lss Z Z)<|.nt<|.cd Z (λh9=>?_) (λh9=>?_)
 ·have h9:tlv op<k:=by have:=Al_of_decide_eq_true h9;omega
  refine .sr<|.yw (.loadW Z Fx.agg76 Hm Z)<|.yw (.call Fx.call89 Z (λW s=>ht _ W h hok hl s.agr))<|.yw (.app Z Z (by (try simp only [Al_List_length_append,Al_List_length_cons,Al_List_length_nil]);omega))<|.yw (.app Z Z (by (try simp only [Al_List_length_append,Al_List_length_cons,Al_List_length_nil]);omega))<|.az Z<|.tR<|?_
  refine y9 Z Z λW s=>⟨?_,s.ext⟩
  first
   | (rw [show decide (tlv (Ex.op (.mk op nm nn args))<k)=true from Al_decide_eq_true h9];rfl)
   | (rw [show decide (tlv (Ex.op (.mk op nm nn args))<k)=false from Al_decide_eq_false h9];rfl)
 have h9:¬ tlv op<k:=λe=>Al_of_decide_eq_false h9 (by omega);refine .sk<|.tN<|.sr<|.yw (.loadW Z Fx.agg76 Hm Z)<|.yw (.call Fx.call89 Z (λW s=>ht _ W h hok hl s.agr))<|.az Z<|?_
 refine y9 Z Z λW s=>⟨?_,s.ext⟩
 first
  | (rw [show decide (tlv (Ex.op (.mk op nm nn args))<k)=true from Al_decide_eq_true h9];rfl)
  | (rw [show decide (tlv (Ex.op (.mk op nm nn args))<k)=false from Al_decide_eq_false h9];rfl)
theorem termText_any (H:Hp) (G:Gf H) (gq:Gq H) (e:Ex):(∀ (cs:List Value) (W:World),Rep H (dEx .u8 e) cs->termB e=true\/Ex.op e=0->(tmT e).length<=1000000000->Agr H W->Calls prg 89 #[.agg cs.toArray] W λr W'=>r=.returned (strV (tmT e))/\Ext W W'):=by
 induction e using Ex.ind with | _ op nm nn args ih
 intro cs w h hok hl hA;obtain ⟨pp,c,rfl,hs,hnm⟩:=ex_open h;have hcap:=hs.cap;refine Sx.enter (H:=H) func89 rfl ntmps89 rfl hA ?_;refine .sr<|.bx Z Z Z λb1=>.aq Z<|.sq<|.sr<|.fA Z Fx.field76_0<|.lD Z Fx.agg74 Hm Z<|.nt<|.bk<|.sr<|.yw (.eql Z Z)<|.aq Z<|.cd Z (λh6=>?_) (λh6=>?_)
 ·have q1:op=1:=Al_UInt8_toNat_inj.1 (by have:=Al_of_decide_eq_true h6;show op.toNat=1;omega);refine .sr<|.fA Z Fx.field76_2<|.lD Z Fx.agg2 Hm Z<|.yw (.call Fx.call138 Z (λW s=>formatInt_any H gq nn W s.agr))<|.az Z<|.bR<|.tR<|?_
  refine y9 Z Z λW s=>⟨?_,s.ext⟩
  first
   | (rw [tm1 q1])
   | (rw [tm4 q4];rfl)
   | (rw [tm5 q5])
   | (rw [tm6 q6 h0];rfl)
   | (rw [tm8 q8];rfl)
   | (rw [tm9 q9 h0];rfl)
   | (rw [tmb qB h0 h1];rfl)
   | (rw [tmn q1 q4 q5 q6 q8 q9 qB];rfl)
 have q1:¬ op=1:=λe=>Al_of_decide_eq_false h6 (by rw [e];rfl);refine .sr<|.yw (.eql Z Z)<|.aq Z<|.cd Z (λh11=>?_) (λh11=>?_)
 ·have q4:op=4:=Al_UInt8_toNat_inj.1 (by have:=Al_of_decide_eq_true h11;show op.toNat=4;omega);refine .sr<|.az Z<|.bR<|.tR<|?_
  refine y9 Z Z λW s=>⟨?_,s.ext⟩
  first
   | (rw [tm1 q1])
   | (rw [tm4 q4];rfl)
   | (rw [tm5 q5])
   | (rw [tm6 q6 h0];rfl)
   | (rw [tm8 q8];rfl)
   | (rw [tm9 q9 h0];rfl)
   | (rw [tmb qB h0 h1];rfl)
   | (rw [tmn q1 q4 q5 q6 q8 q9 qB];rfl)
 have q4:¬ op=4:=λe=>Al_of_decide_eq_false h11 (by rw [e];rfl);refine .sr<|.yw (.eql Z Z)<|.aq Z<|.cd Z (λh13=>?_) (λh13=>?_)
 ·have q5:op=5:=Al_UInt8_toNat_inj.1 (by have:=Al_of_decide_eq_true h13;show op.toNat=5;omega);refine .sr<|.fA Z Fx.field76_1<|.lD Z Fx.agg9 Hm Z<|.az Z<|.bR<|.tR<|?_
  refine y9 Z Z λW s=>⟨?_,s.ext⟩
  first
   | (rw [tm1 q1])
   | (rw [tm4 q4];rfl)
   | (rw [tm5 q5])
   | (rw [tm6 q6 h0];rfl)
   | (rw [tm8 q8];rfl)
   | (rw [tm9 q9 h0];rfl)
   | (rw [tmb qB h0 h1];rfl)
   | (rw [tmn q1 q4 q5 q6 q8 q9 qB];rfl)
 have q5:¬ op=5:=λe=>Al_of_decide_eq_false h13 (by rw [e];rfl);refine .sr<|.yw (.eql Z Z)<|.aq Z<|.cd Z (λh17=>?_) (λh17=>?_)
 ·have q6:op=6:=Al_UInt8_toNat_inj.1 (by have:=Al_of_decide_eq_true h17;show op.toNat=6;omega);obtain ⟨hla,hta⟩:=term_args1 (.inl q6) (hok.resolve_right (by rw [q6];exact (by decide:¬ (6:UInt8)=0)));have h0:0<args.length:=by omega
  obtain ⟨b0,o0,c0,hp0,r0,l0,m0⟩:=hs.elem (map_at h0);cases hp0;rw [tm6 q6 h0] at hl;simp only [Al_List_length_append,Al_List_length_cons,Al_List_length_nil] at hl

  refine .sq<|.fL 10 [(0,0),(1,0),(2,0),(3,0),(4,0),(5,0),(6,0),(7,0),(8,0),(9,0)]<|.fA Z Fx.field76_1<|.lD Z Fx.agg9 Hm Z<|.yw (.app Z Z (by (try simp only [Al_List_length_append,Al_List_length_cons,Al_List_length_nil]);omega))<|.fA Z Fx.field76_3<|.lD Z Fx.agg32 Hm Z<|.yw (.indexSl Fx.sl32 Z Z (i:=0) Z (by omega) (q:=o0+0 * 4) Z)<|.yw (.loadMW Z Fx.agg76 m0 l0)<|.yw (.call Fx.call89 Z (λW s=>ih _ (Al_List_getElem_mem h0) _ W r0 (.inl (hta _ (Al_List_getElem_mem h0))) (by omega) s.agr))<|.yw (.app Z Z (by (try simp only [Al_List_length_append,Al_List_length_cons,Al_List_length_nil]);omega))<|.yw (.app Z Z (by (try simp only [Al_List_length_append,Al_List_length_cons,Al_List_length_nil]);omega))<|.fn (tl:=[_]) Z<|.az Z<|.bR<|.tR<|?_
  refine y9 Z Z λW s=>⟨?_,s.ext⟩
  first
   | (rw [tm1 q1])
   | (rw [tm4 q4];rfl)
   | (rw [tm5 q5])
   | (rw [tm6 q6 h0];rfl)
   | (rw [tm8 q8];rfl)
   | (rw [tm9 q9 h0];rfl)
   | (rw [tmb qB h0 h1];rfl)
   | (rw [tmn q1 q4 q5 q6 q8 q9 qB];rfl)
 have q6:¬ op=6:=λe=>Al_of_decide_eq_false h17 (by rw [e];rfl);refine .sr<|.yw (.eql Z Z)<|.aq Z<|.cd Z (λh29=>?_) (λh29=>?_)
 ·have q8:op=8:=Al_UInt8_toNat_inj.1 (by have:=Al_of_decide_eq_true h29;show op.toNat=8;omega);refine .sr<|.fA Z Fx.field76_1<|.lD Z Fx.agg9 Hm Z<|.yw (.app Z Z (by (try simp only [Al_List_length_append,Al_List_length_cons,Al_List_length_nil]);omega))<|.az Z<|.bR<|.tR<|?_
  refine y9 Z Z λW s=>⟨?_,s.ext⟩
  first
   | (rw [tm1 q1])
   | (rw [tm4 q4];rfl)
   | (rw [tm5 q5])
   | (rw [tm6 q6 h0];rfl)
   | (rw [tm8 q8];rfl)
   | (rw [tm9 q9 h0];rfl)
   | (rw [tmb qB h0 h1];rfl)
   | (rw [tmn q1 q4 q5 q6 q8 q9 qB];rfl)
 have q8:¬ op=8:=λe=>Al_of_decide_eq_false h29 (by rw [e];rfl);refine .sr<|.yw (.eql Z Z)<|.aq Z<|.cd Z (λh34=>?_) (λh34=>?_)
 ·have q9:op=9:=Al_UInt8_toNat_inj.1 (by have:=Al_of_decide_eq_true h34;show op.toNat=9;omega);obtain ⟨hla,hta⟩:=term_args1 (.inr q9) (hok.resolve_right (by rw [q9];exact (by decide:¬ (9:UInt8)=0)));have h0:0<args.length:=by omega
  obtain ⟨b0,o0,c0,hp0,r0,l0,m0⟩:=hs.elem (map_at h0);cases hp0;rw [tm9 q9 h0] at hl;simp only [Al_List_length_append,Al_List_length_cons,Al_List_length_nil] at hl;have pl:=prnT_len (decide (tlv args[0].op<6)) (tmT args[0])

  refine .sr<|.fA Z Fx.field76_3<|.lD Z Fx.agg32 Hm Z<|.yw (.indexSl Fx.sl32 Z Z (i:=0) Z (by omega) (q:=o0+0 * 4) Z)<|.yw (.loadMW Z Fx.agg76 m0 l0)<|.yw (.call Fx.call139 Z (λW s=>termOperand_any H _ 6 (ih _ (Al_List_getElem_mem h0)) _ W r0 (.inl (hta _ (Al_List_getElem_mem h0))) (by omega) s.agr))<|.yw (.app Z Z (by (try simp only [Al_List_length_append,Al_List_length_cons,Al_List_length_nil]);omega))<|.az Z<|.bR<|.tR<|?_
  refine y9 Z Z λW s=>⟨?_,s.ext⟩
  first
   | (rw [tm1 q1])
   | (rw [tm4 q4];rfl)
   | (rw [tm5 q5])
   | (rw [tm6 q6 h0];rfl)
   | (rw [tm8 q8];rfl)
   | (rw [tm9 q9 h0];rfl)
   | (rw [tmb qB h0 h1];rfl)
   | (rw [tmn q1 q4 q5 q6 q8 q9 qB];rfl)
 have q9:¬ op=9:=λe=>Al_of_decide_eq_false h34 (by rw [e];rfl);refine .cu (X:=Bool) [(1,_)] ⟨Z,Jt⟩ (λz=>[(42,.bool z)]) (λz=>H) (λz=>[.box b1 [.int .u8 op.toNat,strV nm,.int .i64 nn.toInt,.slice pp args.length c] 76]) (λz=>z=decide (op=11\/op=12\/op=13\/op=14\/op=15)) ?_ λz hC=>?_
 ·
  refine .sr<|.yw (.eql Z Z)<|.aq Z<|.cr Z (λh42=>?_) (λh42=>?_)
  ·have qb:op=11:=Al_UInt8_toNat_inj.1 (by have:=Al_of_decide_eq_true h42;show op.toNat=11;omega);exact .sk<|.tN<|.me _ ⟨Z,Jt⟩ ⟨Z,Jt⟩ (λ_ s=>s) (by first | (rw [qb];rfl) | (simp only [qb11,qb12,qb13,qb14,false_or];exact k8 (m:=15) (by decide)))
  have qb11:¬ op=11:=λe=>Al_of_decide_eq_false h42 (by rw [e];rfl);refine .sr<|.yw (.eql Z Z)<|.aq Z<|.cr Z (λh42=>?_) (λh42=>?_)
  ·have qb:op=12:=Al_UInt8_toNat_inj.1 (by have:=Al_of_decide_eq_true h42;show op.toNat=12;omega);exact .sk<|.tN<|.me _ ⟨Z,Jt⟩ ⟨Z,Jt⟩ (λ_ s=>s) (by first | (rw [qb];rfl) | (simp only [qb11,qb12,qb13,qb14,false_or];exact k8 (m:=15) (by decide)))
  have qb12:¬ op=12:=λe=>Al_of_decide_eq_false h42 (by rw [e];rfl);refine .sr<|.yw (.eql Z Z)<|.aq Z<|.cr Z (λh42=>?_) (λh42=>?_)
  ·have qb:op=13:=Al_UInt8_toNat_inj.1 (by have:=Al_of_decide_eq_true h42;show op.toNat=13;omega);exact .sk<|.tN<|.me _ ⟨Z,Jt⟩ ⟨Z,Jt⟩ (λ_ s=>s) (by first | (rw [qb];rfl) | (simp only [qb11,qb12,qb13,qb14,false_or];exact k8 (m:=15) (by decide)))
  have qb13:¬ op=13:=λe=>Al_of_decide_eq_false h42 (by rw [e];rfl);refine .sr<|.yw (.eql Z Z)<|.aq Z<|.cr Z (λh42=>?_) (λh42=>?_)
  ·have qb:op=14:=Al_UInt8_toNat_inj.1 (by have:=Al_of_decide_eq_true h42;show op.toNat=14;omega);exact .sk<|.tN<|.me _ ⟨Z,Jt⟩ ⟨Z,Jt⟩ (λ_ s=>s) (by first | (rw [qb];rfl) | (simp only [qb11,qb12,qb13,qb14,false_or];exact k8 (m:=15) (by decide)))
  have qb14:¬ op=14:=λe=>Al_of_decide_eq_false h42 (by rw [e];rfl);exact .rg<|.yw (.eql Z Z)<|.aq Z<|.me _ ⟨Z,Jt⟩ ⟨Z,Jt⟩ (λ_ s=>s) (by first | (rw [qb];rfl) | (simp only [qb11,qb12,qb13,qb14,false_or];exact k8 (m:=15) (by decide)))
 have eqB:=hC;refine .cr Z (λh42=>?_) (λh42=>?_)
 ·have qB:(op=11\/op=12\/op=13\/op=14\/op=15):=by rw [h42] at eqB;exact Al_of_decide_eq_true eqB.symm
  obtain ⟨hla,hta⟩:=term_args2 qB (hok.resolve_right (by rintro (h:op=0);rw [h] at qB;revert qB;decide));have h0:0<args.length:=by omega
  have h1:1<args.length:=by omega
  obtain ⟨b0,o0,c0,hp0,r0,l0,m0⟩:=hs.elem (map_at h0);cases hp0;obtain ⟨b1,o1,c1,hp1,r1,l1,m1⟩:=hs.elem (map_at h1);cases hp1;rw [tmb qB h0 h1] at hl;simp only [Al_List_length_append,Al_List_length_cons,Al_List_length_nil] at hl;have pl:=prnT_len (decide (tlv args[0].op<tlv op)) (tmT args[0]);have pl1:=prnT_len (decide (tlv args[1].op<tlv op+1)) (tmT args[1]);have psy:=symT_len op;have htl:=tlv_le op;have hop:op.toNat<=15:=by rcases qB with rfl | rfl | rfl | rfl | rfl <;> decide
  refine .sr<|.fA Z Fx.field76_0<|.lD Z Fx.agg74 Hm Z<|.yw (.call Fx.call140 Z (λW s=>tlv_any H op W s.agr))<|.aq Z<|.sq<|.fL 21 [(0,0),(1,0),(2,0),(3,0),(4,0),(5,0),(6,0),(7,0),(8,0),(9,0),(10,0),(11,0),(12,0),(13,0),(14,0),(15,0),(16,0),(17,0),(18,0),(19,0),(20,0)]<|.fA Z Fx.field76_3<|.lD Z Fx.agg32 Hm Z<|.yw (.indexSl Fx.sl32 Z Z (i:=0) Z (by omega) (q:=o0+0 * 4) Z)<|.yw (.loadMW Z Fx.agg76 m0 l0)<|.mv Z<|.yw (.call Fx.call139 Z (λW s=>termOperand_any H _ (tlv op) (ih _ (Al_List_getElem_mem h0)) _ W r0 (.inl (hta _ (Al_List_getElem_mem h0))) (by omega) s.agr))<|.yw (.app Z Z (by (try simp only [Al_List_length_append,Al_List_length_cons,Al_List_length_nil]);omega))<|.fA Z Fx.field76_0<|.lD Z Fx.agg74 Hm Z<|.yw (.indexArr Fx.arr165 Z Z Z (by omega) (q:=op.toNat) (by omega))<|.yw (.loadM (k:=op.toNat) (v:=strV (symT op)) Z Fx.agg9 G.syms (by omega) (by show _=some (strV (fsyms.getD op.toNat []));exact list_at (by show op.toNat<22;omega) []))<|.yw (.app Z Z (by (try simp only [Al_List_length_append,Al_List_length_cons,Al_List_length_nil]);omega))<|.yw (.app Z Z (by (try simp only [Al_List_length_append,Al_List_length_cons,Al_List_length_nil]);omega))<|.fA Z Fx.field76_3<|.lD Z Fx.agg32 Hm Z<|.yw (.indexSl Fx.sl32 Z Z (i:=1) Z (by omega) (q:=o0+1 * 4) Z)<|.yw (.loadMW Z Fx.agg76 m1 l1)<|.mv Z<|.yw (.add Z Z w7)<|.yw (.call Fx.call139 Z (λW s=>termOperand_any H _ (tlv op+1) (ih _ (Al_List_getElem_mem h1)) _ W r1 (.inl (hta _ (Al_List_getElem_mem h1))) (by omega) s.agr))<|.yw (.app Z Z (by (try simp only [Al_List_length_append,Al_List_length_cons,Al_List_length_nil]);omega))<|.fn (tl:=[_]) Z<|.az Z<|.bR<|.tR<|?_
  refine y9 Z Z λW s=>⟨?_,s.ext⟩
  first
   | (rw [tm1 q1])
   | (rw [tm4 q4];rfl)
   | (rw [tm5 q5])
   | (rw [tm6 q6 h0];rfl)
   | (rw [tm8 q8];rfl)
   | (rw [tm9 q9 h0];rfl)
   | (rw [tmb qB h0 h1];rfl)
   | (rw [tmn q1 q4 q5 q6 q8 q9 qB];rfl)
 have qB:¬ (op=11\/op=12\/op=13\/op=14\/op=15):=by rw [h42] at eqB;exact Al_of_decide_eq_false eqB.symm
 refine .sk<|.bN<|.tN<|.sr<|.az Z<|?_
 refine y9 Z Z λW s=>⟨?_,s.ext⟩
 first
  | (rw [tm1 q1])
  | (rw [tm4 q4];rfl)
  | (rw [tm5 q5])
  | (rw [tm6 q6 h0];rfl)
  | (rw [tm8 q8];rfl)
  | (rw [tm9 q9 h0];rfl)
  | (rw [tmb qB h0 h1];rfl)
  | (rw [tmn q1 q4 q5 q6 q8 q9 qB];rfl)
theorem join_joi (sep:Str):∀ l:List Str,Lib.join l sep=joiT sep l
 | []=>rfl
 | [x]=>Lib.join_one x sep
 | x::y::r=>by
  show _=x++sep++joiT sep (y::r);rw [<-join_joi sep (y::r),Lib.join_cons,Lib.join_cons];simp [Lib.joinTail,Al_List_append_assoc]
theorem joi_len (sep:Str):∀ l:List Str,(joiT sep l).length<=(l.map List.length).sum+l.length * sep.length
 | []=>Al_Nat_zero_le _
 | [x]=>by show x.length<=x.length+0+1 * sep.length;omega
 | x::y::r=>by
  have h:=joi_len sep (y::r);show (x++sep++joiT sep (y::r)).length<=_;rw [Al_List_length_append,Al_List_length_append,Al_List_map_cons,List.sum_cons,Al_List_length_cons (a:=x),Al_Nat_add_mul];omega
theorem joi_ge (sep:Str):∀ (l:List Str),∀ x∈l,x.length<=(joiT sep l).length
 | [y],x,h=>by rw [Al_List_mem_singleton.1 h];exact Al_Nat_le_refl _
 | y::z::r,x,h=>by
  show _<=(y++sep++joiT sep (z::r)).length;rw [Al_List_length_append,Al_List_length_append];rcases Al_List_mem_cons.1 h with rfl | h
  ·omega
  ·have:=joi_ge sep (z::r) x h;omega
section
variable {op:UInt8} {nm fd:Str} {a b:Int64} {ex:List Ex} {args:List Fm} {e0:Ex}
theorem form_all (h:Fm.all formB (.mk op nm fd a b ex args)=true):formB (.mk op nm fd a b ex args)=true/\∀ g∈args,Fm.all formB g=true:=by
 rw [fm_allL,Al_Bool_and_eq_true,Al_List_all_eq_true] at h;exact h
theorem form_parts (h:formB (.mk op nm fd a b ex args)=true):¬ (fsOf op).lv=0/\args.length=(fsOf op).ar/\exsB (.mk op nm fd a b ex args)=true/\bndB (.mk op nm fd a b ex args)=true:=by
 unfold formB at h;rw [Al_Bool_and_eq_true,Al_Bool_and_eq_true,Al_Bool_and_eq_true,Al_Bool_and_eq_true,Al_Bool_and_eq_true,Al_decide_eq_true_eq,Al_decide_eq_true_eq] at h;exact ⟨h.1.1.1.1.1,h.1.1.2,h.2,h.1.2⟩
theorem form_op (h:formB (.mk op nm fd a b ex args)=true):op.toNat<=18:=by
 have h1:=(form_parts h).1;exact Classical.byContradiction λe=>h1 (by unfold fsOf;rw [List.getD_eq_getElem?_getD,List.getElem?_eq_none (by show 19<=op.toNat;omega)];rfl)
theorem form_ex7 (h:formB (.mk op nm fd a b ex args)=true) (q:op=7):ex.length<=4/\∀ e∈ex,termB e=true\/e.op=0:=by
 have h1:=(form_parts h).2.2.1;subst q;unfold exsB at h1;rw [Al_if_pos (show (Fm.mk 7 nm fd a b ex args).op=7 from rfl),Al_Bool_and_eq_true,Al_decide_eq_true_eq,Al_List_all_eq_true] at h1;refine ⟨h1.1,λe he=>?_⟩;have h2:=h1.2 e he;rw [Al_Bool_or_eq_true] at h2;rcases h2 with h2 | h2
 ·obtain ⟨o,n,m,al⟩:=e;unfold anyB at h2;simp only [Al_Bool_and_eq_true,Al_decide_eq_true_eq] at h2;exact .inr h2.1.1.1
 ·exact .inl h2
theorem form_exn (h:formB (.mk op nm fd a b ex args)=true) (q:¬ op=7):ex.length=(fsOf op).ex/\(if op=3 then cmpB (ex.headD (.mk 0 [] 0 [])) else if op=5 then termB (ex.headD (.mk 0 [] 0 [])) else if op=18 then decide ((ex.headD (.mk 0 [] 0 [])).op=1) && termB (ex.headD (.mk 0 [] 0 [])) && decide ((ex.headD (.mk 0 [] 0 [])).n.toInt<=32) else true)=true:=by
 have h1:=(form_parts h).2.2.1;unfold exsB at h1;rw [Al_if_neg (show ¬ (Fm.mk op nm fd a b ex args).op=7 from q),Al_Bool_and_eq_true,Al_decide_eq_true_eq] at h1;exact h1
theorem form_ex1 (h:formB (.mk op nm fd a b ex args)=true) (q:op=5\/op=18):∃ e0,ex=[e0]/\termB e0=true:=by
 have h1:=form_exn h (by rcases q with rfl | rfl <;> decide);have hl:ex.length=1:=h1.1.trans (by rcases q with rfl | rfl <;> rfl);obtain ⟨e0,rfl⟩:=List.length_eq_one_iff.1 hl;refine ⟨e0,Z,?_⟩;have h2:=h1.2;rcases q with rfl | rfl
 ·exact h2
 ·rw [Al_if_neg (by decide),Al_if_neg (by decide),Al_if_pos rfl,Al_Bool_and_eq_true,Al_Bool_and_eq_true] at h2;exact h2.1.2
theorem form_ex3 (h:formB (.mk op nm fd a b ex args)=true) (q:op=3):∃ op0 nm0 m0 args0,ex=[.mk op0 nm0 m0 args0]/\(16<=op0.toNat/\op0.toNat<=21)/\args0.length=2/\∀ a∈args0,termB a=true:=by
 have h1:=form_exn h (by subst q;decide);have hl:ex.length=1:=h1.1.trans (by subst q;rfl);obtain ⟨⟨op0,nm0,m0,args0⟩,rfl⟩:=List.length_eq_one_iff.1 hl;refine ⟨op0,nm0,m0,args0,Z,?_⟩;have h2:=h1.2;rw [Al_if_pos q] at h2;change cmpB (.mk op0 nm0 m0 args0)=true at h2;unfold cmpB at h2;simp only [Al_Bool_and_eq_true,Al_decide_eq_true_eq] at h2;rw [termBs_all,Al_List_all_eq_true] at h2;exact ⟨⟨h2.1.1.1.1,h2.1.1.1.2⟩,h2.2.2,h2.2.1⟩
theorem fx3 {op0:UInt8} {nm0:Str} {m0:Int64} {args0:List Ex} (h:op=3) (he:ex=[.mk op0 nm0 m0 args0]) (h0:0<args0.length) (h1:1<args0.length):fmT (.mk op nm fd a b ex args)=(tmT args0[0]++([32]:Str)++symT op0++([32]:Str)++tmT args0[1]:Str):=by
 match args0,h1 with
 | x::y::r,_=>rw [fm_mk];subst h he;rfl
theorem fx4 (h:op=4):fmT (.mk op nm fd a b ex args)=(nm++([46]:Str)++fd:Str):=by rw [fm_mk];subst h;rfl
theorem fx5 (h:op=5) (he:ex=[e0]):fmT (.mk op nm fd a b ex args)=(wordF op++([32]:Str)++nm++([46]:Str)++fd++([91]:Str)++tmT e0++([93]:Str):Str):=by rw [fm_mk];subst h he;rfl
theorem fx6 (h:op=6):fmT (.mk op nm fd a b ex args)=(wordF op++([32]:Str)++nm:Str):=by rw [fm_mk];subst h;rfl
theorem fx7 (h:op=7):fmT (.mk op nm fd a b ex args)=(wordF op++([32]:Str)++nm++([46]:Str)++fd++([40]:Str)++joiT ([44,32]:Str) (ex.map tmT)++([41]:Str):Str):=by rw [fm_mk];subst h;rfl
def pfW (k:Nat) (f:Fm):Str:=prnT (decide ((fsOf f.op).lv<k)) (fmT f)
theorem fxu (h:op=8\/op=12\/op=13\/op=14) (h0:0<args.length):fmT (.mk op nm fd a b ex args)=(wordF op++winT (.mk op nm fd a b ex args)++([32]:Str)++pfW 5 args[0]:Str):=by
 rw [fm_mk];unfold fmOp pfW;rw [hd0 h0];rcases h with rfl | rfl | rfl | rfl <;> rfl
theorem fxq (h:op=16\/op=17) (h0:0<args.length):fmT (.mk op nm fd a b ex args)=(wordF op++amoT (.mk op nm fd a b ex args)++([32]:Str)++pfW 5 args[0]:Str):=by
 rw [fm_mk];unfold fmOp pfW;rw [hd0 h0];rcases h with rfl | rfl <;> rfl
theorem fx18 (h:op=18) (he:ex=[e0]) (h0:0<args.length):fmT (.mk op nm fd a b ex args)=(wordF op++amoT (.mk op nm fd a b ex args)++([32,40]:Str)++fmT args[0]++([41,32,62,61,32]:Str)++tmT e0:Str):=by
 rw [fm_mk];unfold fmOp;rw [hd0 h0];subst h he;rfl
theorem fxb (h:op=15\/op=9\/op=10\/op=11) (h0:0<args.length) (h1:1<args.length):fmT (.mk op nm fd a b ex args)=(pfW (fsOf op).lv args[0]++([32]:Str)++wordF op++winT (.mk op nm fd a b ex args)++([32]:Str)++pfW ((fsOf op).lv+1) args[1]:Str):=by
 rw [fm_mk];unfold fmOp pfW;rw [hd0 h0,hd1 h1];rcases h with rfl | rfl | rfl | rfl <;> rfl
theorem fxn (h3:¬ op=3) (h4:¬ op=4) (h5:¬ op=5) (h6:¬ op=6) (h7:¬ op=7) (hu:¬ (op=8\/op=12\/op=13\/op=14)) (hq:¬ (op=16\/op=17)) (h18:¬ op=18) (hb:¬ (op=15\/op=9\/op=10\/op=11)):fmT (.mk op nm fd a b ex args)=wordF op:=by
 rw [fm_mk];unfold fmOp;rw [Al_if_neg (show ¬ (Fm.mk op nm fd a b ex args).op=3 from h3),Al_if_neg (show ¬ (Fm.mk op nm fd a b ex args).op=4 from h4),Al_if_neg (show ¬ (Fm.mk op nm fd a b ex args).op=5 from h5),Al_if_neg (show ¬ (Fm.mk op nm fd a b ex args).op=6 from h6),Al_if_neg (show ¬ (Fm.mk op nm fd a b ex args).op=7 from h7),Al_if_neg (show ¬ ((Fm.mk op nm fd a b ex args).op=8\/(Fm.mk op nm fd a b ex args).op=12\/(Fm.mk op nm fd a b ex args).op=13\/(Fm.mk op nm fd a b ex args).op=14) from hu),Al_if_neg (show ¬ ((Fm.mk op nm fd a b ex args).op=16\/(Fm.mk op nm fd a b ex args).op=17) from hq),Al_if_neg (show ¬ (Fm.mk op nm fd a b ex args).op=18 from h18),Al_if_neg (show ¬ ((Fm.mk op nm fd a b ex args).op=15\/(Fm.mk op nm fd a b ex args).op=9\/(Fm.mk op nm fd a b ex args).op=10\/(Fm.mk op nm fd a b ex args).op=11) from hb)]
 rfl
theorem ar1 (h:op=8\/op=12\/op=13\/op=14\/op=16\/op=17\/op=18):(fsOf op).ar=1:=by rcases h with rfl | rfl | rfl | rfl | rfl | rfl | rfl <;> rfl
theorem ar2 (h:op=15\/op=9\/op=10\/op=11):(fsOf op).ar=2:=by rcases h with rfl | rfl | rfl | rfl <;> rfl
theorem win_len:(winT (.mk op nm fd a b ex args)).length<=46:=by
 unfold winT
 split
 ·exact Al_Nat_zero_le _
 ·have h1:=itoa_len (Fm.mk op nm fd a b ex args).a;have h2:=itoa_len (Fm.mk op nm fd a b ex args).b;simp only [Al_List_length_append,Al_List_length_cons,Al_List_length_nil];omega
theorem amo_len:(amoT (.mk op nm fd a b ex args)).length<=nm.length+49:=by
 have h1:=itoa_len (Fm.mk op nm fd a b ex args).a;have h2:=itoa_len (Fm.mk op nm fd a b ex args).b;show (([32]:Str)++nm++_++_++_++_).length<=_;simp only [Al_List_length_append,Al_List_length_cons,Al_List_length_nil];omega
theorem pfW_len (k:Nat) (f:Fm):(fmT f).length<=(pfW k f).length/\(pfW k f).length<=(fmT f).length+2:=prnT_len _ _
end
def nlF (f:Fm):Bool:=Fm.all (λf=>decide (f.nm.length<=1000000) && decide (f.fd.length<=1000000) && f.ex.all nlE) f
theorem tmTs_len:∀ l:List Ex,(∀ e∈l,nlE e=true)->((l.map tmT).map List.length).sum<=1000100 * Ex.counts l
 | [],_=>Al_Nat_zero_le _
 | e::r,h=>by
  rw [Al_List_map_cons,Al_List_map_cons,List.sum_cons,Ex.counts];have h1:=tmT_len e (h e (Al_List_mem_cons_self ..));have h2:=tmTs_len r λx hx=>h x (Al_List_mem_cons_of_mem _ hx);omega
theorem tmAt_len (e:Ex) (h:nlE e=true):(tmT (ex0 e)).length+(tmT (ex1 e)).length<=1000100 * e.count:=by
 obtain ⟨op,nm,n,args⟩:=e;unfold nlE at h;rw [all_mk,alls_allE,Al_Bool_and_eq_true,Al_List_all_eq_true] at h;rw [ex_count];have hz:tmT zE=[95]:=tm_mk
 match args,h.2 with
 | [],_=>show (tmT zE).length+(tmT zE).length<=_;rw [hz,Ex.counts];decide
 | [x],h =>
  have:=tmT_len x (h x (Al_List_mem_cons_self ..));show (tmT x).length+(tmT zE).length<=_;rw [hz,Ex.counts,Ex.counts];show _+1<=_;omega
 | x::y::r,h =>
  have h1:=tmT_len x (h x (Al_List_mem_cons_self ..));have h2:=tmT_len y (h y (Al_List_mem_cons_of_mem _ (Al_List_mem_cons_self ..)));show (tmT x).length+(tmT y).length<=_;rw [Ex.counts,Ex.counts];omega
theorem fmOp_len (F:Fm) (l:List (UInt8 × Str)) (C D:Nat) (h1:F.nm.length<=1000000) (h2:F.fd.length<=1000000) (he:(tmT (exH F)).length+(tmT (ex0 (exH F))).length+(tmT (ex1 (exH F))).length<=2000200 * D+3)
 (hj:(joiT ([44,32]:Str) (F.ex.map tmT)).length<=1000102 * D) (hx:(l.headD (0,[])).2.length+((l.drop 1).headD (0,[])).2.length<=3000200 * C) (w1:(winT F).length<=46) (w2:(amoT F).length<=F.nm.length+49):(fmOp F l).length<=3000200 * (D+C+1):=by
 have w3:=wordF_len F.op;have w4:=symT_len (exH F).op;have p1:=(prnT_len (decide ((fsOf (l.headD (0,[])).1).lv<5)) (l.headD (0,[])).2).2;have p2:=(prnT_len (decide ((fsOf (l.headD (0,[])).1).lv<(fsOf F.op).lv)) (l.headD (0,[])).2).2;have p3:=(prnT_len (decide ((fsOf ((l.drop 1).headD (0,[])).1).lv<(fsOf F.op).lv+1)) ((l.drop 1).headD (0,[])).2).2;unfold fmOp
 repeat' split
 all_goals (try simp only [Al_List_length_append,Al_List_length_cons,Al_List_length_nil]);omega
theorem fmT_len (f:Fm) (hn:nlF f=true):(fmT f).length<=3000200 * f.count:=by
 induction f using Fm.ind with | _ op nm fd a b ex args ih
 unfold nlF at hn;rw [fm_allL,Al_Bool_and_eq_true,Al_Bool_and_eq_true,Al_Bool_and_eq_true,Al_decide_eq_true_eq,Al_decide_eq_true_eq,Al_List_all_eq_true,Al_List_all_eq_true] at hn;obtain ⟨⟨⟨hn,hf⟩,he⟩,ha⟩:=hn;have hn':nm.length<=1000000:=hn;have hf':fd.length<=1000000:=hf;have he':∀ e∈ex,nlE e=true:=he
 have hx:∀ (l:List (UInt8 × Str)),l=args.map (λf=>(f.op,fmT f))->(l.headD (0,[])).2.length+((l.drop 1).headD (0,[])).2.length<=3000200 * Fm.counts args:=by
  rintro l rfl
  match args,ih,ha with
  | [],_,_=>exact Al_Nat_zero_le _
  | [a],ih,ha =>
   have:=ih a (Al_List_mem_cons_self ..) (ha a (Al_List_mem_cons_self ..));rw [Fm.counts,Fm.counts];show (fmT a).length+0<=_;omega
  | a::b::r,ih,ha =>
   have h1:=ih a (Al_List_mem_cons_self ..) (ha a (Al_List_mem_cons_self ..));have h2:=ih b (Al_List_mem_cons_of_mem _ (Al_List_mem_cons_self ..)) (ha b (Al_List_mem_cons_of_mem _ (Al_List_mem_cons_self ..)));rw [Fm.counts,Fm.counts];show (fmT a).length+(fmT b).length<=_;omega
 have hx:=hx _ rfl
 have he0:(tmT (exH (.mk op nm fd a b ex args))).length+(tmT (ex0 (exH (.mk op nm fd a b ex args)))).length+(tmT (ex1 (exH (.mk op nm fd a b ex args)))).length<=2000200 * Ex.counts ex+3:=by
  have hz:tmT zE=[95]:=tm_mk
  match ex,he' with
  | [],_ =>
   show (tmT zE).length+(tmT zE).length+(tmT zE).length<=_;rw [hz];show 3<=_;omega
  | e::r,h =>
   have h1:=tmT_len e (h e (Al_List_mem_cons_self ..));have h2:=tmAt_len e (h e (Al_List_mem_cons_self ..));show (tmT e).length+(tmT (ex0 e)).length+(tmT (ex1 e)).length<=_;rw [Ex.counts];omega
 have hj:=joi_len ([44,32]:Str) (ex.map tmT);have hs:=tmTs_len ex he';have hl2:=ex_len ex;rw [Al_List_length_map] at hj;rw [fm_count,fm_mk];have e2:([44,32]:Str).length=2:=rfl;rw [e2] at hj;exact fmOp_len _ _ _ _ hn' hf' he0 (Al_Nat_le_trans hj (by omega)) hx win_len amo_len
theorem fld_s0 (s:Fs):∀ W,(Instr.field 157 (.agg (fsC s).toArray) 0).run prg W=.ok (.int .u8 (s.lv:Nat)) W:=λ_=>by kernel_rfl
theorem fld_s3 (s:Fs):∀ W,(Instr.field 157 (.agg (fsC s).toArray) 3).run prg W=.ok (.bool s.wn) W:=λ_=>by kernel_rfl
section
variable {op:UInt8} {nm fd:Str} {a b:Int64} {ex:List Ex} {args:List Fm}
theorem win_1 (h:(!(fsOf op).wn)=true):winT (.mk op nm fd a b ex args)=[]:=by
 unfold winT;exact Al_if_pos (show (!(fsOf op).wn || decide (b.toInt<0))=true by rw [h];rfl)
theorem win_2 (h:(!(fsOf op).wn)=false) (h2:decide (b.toInt<0)=true):winT (.mk op nm fd a b ex args)=[]:=by
 unfold winT;exact Al_if_pos (show (!(fsOf op).wn || decide (b.toInt<0))=true by rw [h,h2];rfl)
theorem win_3 (h:(!(fsOf op).wn)=false) (h2:decide (b.toInt<0)=false):winT (.mk op nm fd a b ex args)=([91]:Str)++Lib.itoa a.toInt++([44,32]:Str)++Lib.itoa b.toInt++([93]:Str):=by
 unfold winT;exact Al_if_neg (show ¬ (!(fsOf op).wn || decide (b.toInt<0))=true by rw [h,h2];decide)
end
theorem window_any (H:Hp) (G:Gf H) (gq:Gq H) (f:Fm) (cs:List Value) (w:World) (h:Rep H (dFm .u8 f) cs) (hA:Agr H w):Calls prg 91 #[.agg cs.toArray] w λr w'=>r=.returned (strV (winT f))/\Ext w w':=by
 obtain ⟨op,nm,fd,a,b,ex,args⟩:=f;obtain ⟨p1,c1,p2,c2,rfl,hs1,hs2,hnm,hfd⟩:=fm_open h;have hi1:=itoa_len a;have hi2:=itoa_len b;refine Sx.enter (H:=H) func91 rfl ntmps91 rfl hA ?_;refine .sr<|.bx Z Z Z λb1=>.aq Z<|.sq<|.sr<|.fA Z Fx.field35_0<|.lD Z Fx.agg31 Hm Z<|.yw (.call (v:=.agg (fsC (fsOf op)).toArray) Fx.call74 Z (λW s=>fshape_any H G op W s.agr))<|.yw (.fld Z (fld_s3 _))<|.yw (.not Z)<|.mv Z<|.b2 (λh8=>?_) (λh8=>?_)
 ·try simp only [dt] at h8
  refine .gG<|.gG<|.gG<|.yw (.pickT Z Z)<|.nt<|.cT Z<|.sr<|.az Z<|.tR<|?_
  refine y9 Z Z λW s=>⟨?_,s.ext⟩
  first
   | (rw [win_2 h8 h12];rfl)
   | (rw [win_3 h8 h12];rfl)
   | (rw [win_1 h8];rfl)
 try simp only [df] at h8
 refine .gy (.fieldAddr Z Fx.field35_4)<|.gy (.load Z Fx.agg3 Hm Z)<|.gy (.lss Z Z)<|.yw (.pickF Z Z)<|.nt<|.cd Z (λh12=>?_) (λh12=>?_)
 ·refine .sr<|.az Z<|.tR<|?_
  refine y9 Z Z λW s=>⟨?_,s.ext⟩
  first
   | (rw [win_2 h8 h12];rfl)
   | (rw [win_3 h8 h12];rfl)
   | (rw [win_1 h8];rfl)
 refine .sk<|.tN<|.sq<|.fL 10 [(0,0),(1,0),(2,0),(3,0),(4,0),(5,0),(6,0),(7,0),(8,0),(9,0)]<|.fA Z Fx.field35_3<|.lD Z Fx.agg3 Hm Z<|.yw (.call Fx.call144 Z (λW s=>itoa_any H gq a W s.agr))<|.yw (.app Z Z (by (try simp only [Al_List_length_append,Al_List_length_cons,Al_List_length_nil]);omega))<|.yw (.app Z Z (by (try simp only [Al_List_length_append,Al_List_length_cons,Al_List_length_nil]);omega))<|.fA Z Fx.field35_4<|.lD Z Fx.agg3 Hm Z<|.yw (.call Fx.call144 Z (λW s=>itoa_any H gq b W s.agr))<|.yw (.app Z Z (by (try simp only [Al_List_length_append,Al_List_length_cons,Al_List_length_nil]);omega))<|.yw (.app Z Z (by (try simp only [Al_List_length_append,Al_List_length_cons,Al_List_length_nil]);omega))<|.fn (tl:=[_]) Z<|.az Z<|?_
 refine y9 Z Z λW s=>⟨?_,s.ext⟩
 first
  | (rw [win_2 h8 h12];rfl)
  | (rw [win_3 h8 h12];rfl)
  | (rw [win_1 h8];rfl)
theorem among_any (H:Hp) (gq:Gq H) (f:Fm) (cs:List Value) (w:World) (h:Rep H (dFm .u8 f) cs) (hA:Agr H w):Calls prg 93 #[.agg cs.toArray] w λr w'=>r=.returned (strV (amoT f))/\Ext w w':=by
 obtain ⟨op,nm,fd,a,b,ex,args⟩:=f;obtain ⟨p1,c1,p2,c2,rfl,hs1,hs2,hnm,hfd⟩:=fm_open h;have hi1:=itoa_len a;have hi2:=itoa_len b;refine Sx.enter (H:=H) func93 rfl ntmps93 rfl hA ?_;refine .sr<|.bx Z Z Z λb1=>.aq Z<|.sq<|.fL 13 [(0,0),(1,0),(2,0),(3,0),(4,0),(5,0),(6,0),(7,0),(8,0),(9,0),(10,0),(11,0),(12,0)]<|.fA Z Fx.field35_1<|.lD Z Fx.agg9 Hm Z<|.yw (.app Z Z (by (try simp only [Al_List_length_append,Al_List_length_cons,Al_List_length_nil]);omega))<|.yw (.app Z Z (by (try simp only [Al_List_length_append,Al_List_length_cons,Al_List_length_nil]);omega))<|.fA Z Fx.field35_3<|.lD Z Fx.agg3 Hm Z<|.yw (.call Fx.call144 Z (λW s=>itoa_any H gq a W s.agr))<|.yw (.app Z Z (by (try simp only [Al_List_length_append,Al_List_length_cons,Al_List_length_nil]);omega))<|.yw (.app Z Z (by (try simp only [Al_List_length_append,Al_List_length_cons,Al_List_length_nil]);omega))<|.fA Z Fx.field35_4<|.lD Z Fx.agg3 Hm Z<|.yw (.call Fx.call144 Z (λW s=>itoa_any H gq b W s.agr))<|.yw (.app Z Z (by (try simp only [Al_List_length_append,Al_List_length_cons,Al_List_length_nil]);omega))<|.fn (tl:=[_]) Z<|.az Z<|?_
 refine y9 Z Z λW s=>⟨?_,s.ext⟩
 first
  | (rfl)
theorem foperand_any (H:Hp) (G:Gf H) {op:UInt8} {nm fd:Str} {b:Int64} {ex:List Ex} {args:List Fm} (i k:Nat) (hk:i<args.length) (ht:(∀ (cs:List Value) (W:World),Rep H (dFm .u8 args[i]) cs->Fm.all formB args[i]=true->(fmT args[i]).length<=1000000000->Agr H W->Calls prg 48 #[.agg cs.toArray] W λr W'=>r=.returned (strV (fmT args[i]))/\Ext W W')) (cs:List Value) (w:World) (h:Rep H (dFm .u8 (.mk op nm fd a b ex args)) cs) (hok:Fm.all formB args[i]=true) (hl:(fmT args[i]).length<=1000000000) (hA:Agr H w) :
 Calls prg 92 #[.agg cs.toArray,iN i,.int .u8 (k:Nat)] w λr w'=>r=.returned (strV (pfW k args[i]))/\Ext w w':=by
 obtain ⟨p1,c1,p2,c2,rfl,hs1,hs2,hnm,hfd⟩:=fm_open h;have hcap:=hs2.cap;obtain ⟨bE,oE,cE,hpE,rE,lE,mE⟩:=hs2.elem (map_at (f:=dFm .u8) hk);cases hpE;generalize ef:args[i]=g at rE ht hok hl|-;obtain ⟨op0,nm0,fd0,a0,b0,ex0,args0⟩:=g;obtain ⟨q1,d1,q2,d2,rfl,g1,g2,gn,gf⟩:=fm_open rE;clear ef;have ef:=@id True trivial;refine Sx.enter (H:=H) func92 rfl ntmps92 rfl hA ?_;refine .sr<|.bx Z Z Z λb3=>.a Z Z<|.ns<|.fA Z Fx.field35_6<|.lD Z Fx.agg33 Hm Z<|.mv Z<|.yw (.indexSl Fx.sl33 Z Z (i:=i) Z hk (q:=oE+i * 7) Z)<|.yw (.loadMW Z Fx.agg35 mE lE)<|.al Fx.zero35 Z λb7=>.sX .head Z Z Fx.size35 Z<|.nt<|.sq<|.sr<|.fA Z Fx.field35_0<|.lD Z Fx.agg31 Hm Z<|.yw (.call (v:=.agg (fsC (fsOf _)).toArray) Fx.call74 Z (λW s=>fshape_any H G _ W s.agr))<|.yw (.fld Z (fld_s0 _))<|.mv Z<|.yw (.lss Z Z)<|.nt<|.cd Z (λh18=>?_) (λh18=>?_)
 ·have h18:(fsOf op0).lv<k:=by have:=Al_of_decide_eq_true h18;omega
  refine .sr<|.yw (.loadW Z Fx.agg35 Hm Z)<|.yw (.call Fx.call48 Z (λW s=>ht _ W rE hok hl s.agr))<|.yw (.app Z Z (by (try simp only [Al_List_length_append,Al_List_length_cons,Al_List_length_nil]);omega))<|.yw (.app Z Z (by (try simp only [Al_List_length_append,Al_List_length_cons,Al_List_length_nil]);omega))<|.az Z<|.tR<|?_
  refine y9 Z Z λW s=>⟨?_,s.ext⟩
  first
   | (unfold pfW;rw [show decide ((fsOf (Fm.op (.mk op0 nm0 fd0 a0 b0 ex0 args0))).lv<k)=true from Al_decide_eq_true h18];rfl)
   | (unfold pfW;rw [show decide ((fsOf (Fm.op (.mk op0 nm0 fd0 a0 b0 ex0 args0))).lv<k)=false from Al_decide_eq_false h18];rfl)
 have h18:¬ (fsOf op0).lv<k:=λe=>Al_of_decide_eq_false h18 (by omega);refine .sk<|.tN<|.sr<|.yw (.loadW Z Fx.agg35 Hm Z)<|.yw (.call Fx.call48 Z (λW s=>ht _ W rE hok hl s.agr))<|.az Z<|?_
 refine y9 Z Z λW s=>⟨?_,s.ext⟩
 first
  | (unfold pfW;rw [show decide ((fsOf (Fm.op (.mk op0 nm0 fd0 a0 b0 ex0 args0))).lv<k)=true from Al_decide_eq_true h18];rfl)
  | (unfold pfW;rw [show decide ((fsOf (Fm.op (.mk op0 nm0 fd0 a0 b0 ex0 args0))).lv<k)=false from Al_decide_eq_false h18];rfl)
end Go.Proofs.YtidclioghdbphaaGreatDoor
