import Derived.Test.YtgiajkaabnbieaaGreatGAbsXToAbsZN
import Derived.Test.YtgiajkaabnbieaaGreatAbsQ
import Derived.Lib.SlicesCompact
set_option linter.all false
namespace Go.Abs
open Go
section
variable {P : Program} {k : Nat} {ops xm : Array Oper} {Q : Exit -> St -> Prop} {N f f' n : Nat} {l l' : Array Bool} {s s' : St} {A : Nat -> Array Bool -> St -> Prop} {L : List (Nat × AV)} {st : List Row} {e : Nat -> AV} {ds : List (Option Tmp)} {t : Tmp} {op : Op} {ty : TypeId} {ps : String} {ed : Array Edge} {v : AV} {o : Oper}
theorem xw (hA :∀f l s,A f l s↔AX P k ops Q N f l s)(h:A f l s')(hw:Wk k s s')(hl:l=l':=by kernel_rfl)(hn:s.n=N:=by exact rfl):AX P k ops Q N f l' s:=S6 hw (T5 hl ((hA _ _ _).1 h)) hn
theorem yw (hA :∀f l s,A f l s↔AY P k ops Q N f l s)(h:A f l s')(hw:Wk k s s')(hl:l=l':=by kernel_rfl)(hn:s.n=N:=by exact rfl):AY P k ops Q N f l' s:=Sp hw (XZ hl ((hA _ _ _).1 h)) hn
theorem xt (hA :∀f l s,A f l s↔AX P k ops Q N f l s)(h:A f l ⟨n,AN L,st⟩)(hw:Tp e L=Tc L:=by exact rfl)(hl:l=l':=by kernel_rfl)(hn:n=N:=by exact rfl):AX P k ops Q N f l' ⟨n,e,st⟩:=xw hA h (AI hw) hl hn
theorem U5 (hA :∀f l s,A f l s↔AY P k ops Q N f l s)(h:A f l ⟨n,AN L,st⟩)(hw:Tp e L=Tc L:=by exact rfl)(hl:l=l':=by kernel_rfl)(hn:n=N:=by exact rfl):AY P k ops Q N f l' ⟨n,e,st⟩:=yw hA h (AI hw) hl hn
theorem W5 (hA :∀f l s,A f l s↔AX P k ops Q N f l s)(h:A f l s')(hw:Wk k s s')(hl:l=l':=by kernel_rfl)(hn:s.n=N:=by exact rfl):AO P k xm (λe s'=>e=.normal/\AX P k ops Q N f l' s') ds [] s:=AE ⟨rfl,xw hA h hw hl hn⟩
theorem NL (hA :∀f l s,A f l s↔AY P k ops Q N f l s)(h:A f l s')(hw:Wk k s s')(hl:l=l':=by kernel_rfl)(hn:s.n=N:=by exact rfl):AO P k xm (λe s'=>e=.normal/\AY P k ops Q N f l' s') ds [] s:=AE ⟨rfl,yw hA h hw hl hn⟩
theorem xd (hA :∀f l s,A f l s↔AX P k ops Q N f l s)(h:A f l ⟨n,AN L,st⟩)(hw:Tp e L=Tc L:=by exact rfl)(hl:l=l':=by kernel_rfl)(hn:n=N:=by exact rfl):AO P k xm (λe s'=>e=.normal/\AX P k ops Q N f l' s') ds [] ⟨n,e,st⟩:=AE ⟨rfl,xt hA h hw hl hn⟩
theorem yd (hA :∀f l s,A f l s↔AY P k ops Q N f l s)(h:A f l ⟨n,AN L,st⟩)(hw:Tp e L=Tc L:=by exact rfl)(hl:l=l':=by kernel_rfl)(hn:n=N:=by exact rfl):AO P k xm (λe s'=>e=.normal/\AY P k ops Q N f l' s') ds [] ⟨n,e,st⟩:=AE ⟨rfl,U5 hA h hw hl hn⟩
theorem xo (i:Nat)(h:AO P k (ops.extract 0 (i+1)) (λe s'=>e=.normal/\AX P k ops Q N f (l.setIfInBounds i true) s') ((ops.toList.take i).map (·.dst)) [o] s)(ho:ops[i]?=some o:=by exact rfl)(hg:Oe o i=true:=by exact rfl)(hd:(ops.toList.all λo=>DY s.n o.dst)=true:=by rfl):JZ P k ops Q N f l s i:=JZ.of ho hg hd h
theorem yo (i:Nat)(h:AO P k (ops.extract 0 (i+1)) (λe s'=>e=.normal/\AY P k ops Q N f (l.setIfInBounds i true) s') ((ops.toList.take i).map (·.dst)) [o] s)(ho:ops[i]?=some o:=by exact rfl)(hg:Oe o i=true:=by exact rfl)(hd:(ops.toList.all λo=>DY s.n o.dst)=true:=by rfl):aL P k ops Q N f l s i:=aL.of ho hg hd h
theorem xq {i:Nat}(T:LM P)(hA :∀f l s,A f l s↔AX P k ops Q N f l s)(h:A f l' ⟨n,AN L,st⟩)(ho:ops[i]?=some ⟨some t,op,ty,ps,ed,none⟩:=by exact rfl)(hd:(ops.toList.all λo=>DY n o.dst)=true:=by rfl)
  (hq:qL T ⟨n,e,st⟩ op=some v:=by exact rfl) (hw:Tp (FY e t v) L=Tc L:=by exact rfl) (hl:l'=l.setIfInBounds i true:=by kernel_rfl) (hn:n=N:=by exact rfl):JZ P k ops Q N f l ⟨n,e,st⟩ i:=JZ.of ho rfl hd (zq T hq (xd hA h hw hl hn))
theorem XC {i:Nat}(T:LM P)(hA :∀f l s,A f l s↔AY P k ops Q N f l s)(h:A f l' ⟨n,AN L,st⟩)(ho:ops[i]?=some ⟨some t,op,ty,ps,ed,none⟩:=by exact rfl)(hd:(ops.toList.all λo=>DY n o.dst)=true:=by rfl)
  (hq:qL T ⟨n,e,st⟩ op=some v:=by exact rfl) (hw:Tp (FY e t v) L=Tc L:=by exact rfl) (hl:l'=l.setIfInBounds i true:=by kernel_rfl) (hn:n=N:=by exact rfl):aL P k ops Q N f l ⟨n,e,st⟩ i:=aL.of ho rfl hd (zq T hq (yd hA h hw hl hn))
theorem xa (rs:List Nat)(h:dF P k ops Q N f l s rs)(hr:Region.ready .any ops l=rs:=by kernel_rfl)(rV:rs≠[]:=by decide)(hn:s.n=N:=by exact rfl):AX P k ops Q N (f+1) l s:=AX.all rs hn hr rV h
theorem ya (rs:List Nat)(h:dT P k ops Q N f l s rs)(hr:Region.ready .any ops l=rs:=by kernel_rfl)(rV:rs≠[]:=by decide)(hn:s.n=N:=by exact rfl):AY P k ops Q N (f+1) l s:=AY.all rs hn hr rV h
theorem rt {Q:Exit->St->Prop}{q:St->Prop}(L:List (Nat×AV))(h:Tp e L=Tc L:=by exact rfl)(hq:Q .ret ⟨n,e,st⟩ =∃a,Wk k ⟨n,e,st⟩ a/\q a:=by exact rfl)(g:q ⟨n,AN L,st⟩:=by exact And.intro rfl rfl):AW P k .ret Q ⟨n,e,st⟩:=BG (hq▸⟨_,AI h,g⟩)
theorem rd {Q:Exit->St->Prop}{q:St->Prop}(L:List (Nat×AV))(h:Tp (λt=>Ke [] (e t)) L=Tc L:=by exact rfl)(hq:Q .ret ⟨n,e,st⟩ =∃a,Wk 0 ⟨n,e,st⟩ a/\q a:=by exact rfl)(g:q ⟨n,AN L,[]⟩:=by exact And.intro rfl rfl):AW P 0 .ret Q ⟨n,e,st⟩:=BG (hq▸⟨_,BF L h,g⟩)
end
end Go.Abs
namespace RC
open Go Go.Abs
structure Cell where
 count:Int
 tag:Int
 fields:List Int
def eI (n:Int):List AV:=[.int .i64 n]
def bD (n:Int):List AV:=[.int .u8 n]
def eB (b:Bool):List AV:=[.bool b]
def eS {α:Type}(e:α->List AV)(l:List α):List AV:=[.sl (l.map e)]
def KZ (n:Int):Prop:=-9223372036854775808<=n/\n<=9223372036854775807
def U8 (n:Int):Prop:=0<=n/\n<=255
def FO {α:Type}(se:α->Prop)(l:List α):Prop:=(∀x∈l,se x)/\l.length<=9223372036854775807
structure Yh (c:Cell):Prop where
 count:KZ c.count
 tag:KZ c.tag
 Od:FO KZ c.fields
theorem Yh.len {c:Cell}(h:Yh c):c.fields.length<=9223372036854775807:=h.Od.2
end RC
namespace RC
open Go Go.Abs
structure Gh (S:Type) where
 steps:List S
 result:Int
inductive Step where
 | mk (op num BB:Int) (args:List Int) (kids:List (Gh Step))
abbrev Block:=Gh Step
@[reducible] def Block.mk (steps:List Step)(result:Int):Block:=⟨steps,result⟩
def Step.op:Step->Int|.mk o _ _ _ _=>o
def Step.num:Step->Int|.mk _ n _ _ _=>n
def Step.BB:Step->Int|.mk _ _ i _ _=>i
def Step.args:Step->List Int|.mk _ _ _ a _=>a
def Step.kids:Step->List Block|.mk _ _ _ _ k=>k
theorem Step.eta (s:Step):s=Step.mk s.op s.num s.BB s.args s.kids:=by cases s;rfl
noncomputable def Bx (s:Step):List AV:=
 Step.rec (motive_1:=λ_=>List AV) (motive_2:=λ_=>List (List AV)) (motive_3:=λ_=>List AV) (motive_4:=λ_=>List (List AV))
  (λo n i a _ ks=>[.int .i64 o,.int .i64 n,.int .i64 i,.sl (a.map eI),.sl ks])
  [] (λ_ _ b bs=>b::bs) (λ_ r ss=>[.sl ss,.int .i64 r]) [] (λ_ _ s ss=>s::ss) s
noncomputable def Bq (b:Block):List AV:=[.sl (b.steps.map Bx),.int .i64 b.result]
theorem ZH (ks:List Block):
  Step.rec_1 (motive_1:=λ_=>List AV) (motive_2:=λ_=>List (List AV)) (motive_3:=λ_=>List AV) (motive_4:=λ_=>List (List AV))
  (λo n i a _ ks=>[.int .i64 o,.int .i64 n,.int .i64 i,.sl (a.map eI),.sl ks])
  [] (λ_ _ b bs=>b::bs) (λ_ r ss=>[.sl ss,.int .i64 r]) [] (λ_ _ s ss=>s::ss) ks=ks.map Bq:=by
 have key:∀ss:List Step,Step.rec_3 (motive_1:=λ_=>List AV) (motive_2:=λ_=>List (List AV)) (motive_3:=λ_=>List AV) (motive_4:=λ_=>List (List AV))
  (λo n i a _ ks=>[.int .i64 o,.int .i64 n,.int .i64 i,.sl (a.map eI),.sl ks])
  [] (λ_ _ b bs=>b::bs) (λ_ r ss=>[.sl ss,.int .i64 r]) [] (λ_ _ s ss=>s::ss) ss=ss.map Bx:=by
  intro ss
  induction ss with
  | nil=>rfl
  | cons s ss ih=>exact mr (Bx s::·) ih
 induction ks with
 | nil=>rfl
 | cons b ks ih=>
  obtain⟨ss,r⟩:=b;exact (mr (·::_) (mr (λx=>[AV.sl x,AV.int .i64 r]) (key ss))).trans (mr (Bq ⟨ss,r⟩::·) ih)
theorem CK (s:Step):Bx s=[.int .i64 s.op,.int .i64 s.num,.int .i64 s.BB,.sl (s.args.map eI),.sl (s.kids.map Bq)]:=by
 obtain⟨o,n,i,a,k⟩:=s;exact mr (λx=>[AV.int .i64 o,.int .i64 n,.int .i64 i,.sl (a.map eI),.sl x]) (ZH k)
theorem BV (s:Step):(Bx s).all simple=true:=by rw[CK];rfl
theorem Ge (s:Step):(Bx s).length=5:=by rw[CK];rfl
end RC
namespace RC
open Go Go.Abs
structure Bh where
 fields:List Int
structure Ac where
 from_:Int
 to:Int
 cons:List Bh
structure Yz where
 op:Int
 dst:Int
 num:Int
 BB:Int
 args:List Int
 jumps:List Int
structure bS where
 params:List Int
 Ar:List Int
 result:Int
 ln:Int
 code:List Yz
structure ix where
 decls:List Ac
 procs:List bS
structure Bg where
 params:List Int
 Ar:List Int
 result:Int
structure Ag where
 decls:List Ac
 funcs:List Bg
inductive Dy where
 | mk (op num:Int) (kids:List Dy)
def Dy.op:Dy->Int|.mk o _ _=>o
def Dy.num:Dy->Int|.mk _ n _=>n
def Dy.kids:Dy->List Dy|.mk _ _ k=>k
structure IK where
 params:List Int
 result:Int
 body:Dy
structure EM where
 decls:List Ac
 funcs:List IK
def Bv (c:Bh):List AV:=[.sl (c.fields.map eI)]
def Am (d:Ac):List AV:=[.int .i64 d.from_,.int .i64 d.to,.sl (d.cons.map Bv)]
def Dd (p:Bg):List AV:=[.sl (p.params.map eI),.sl (p.Ar.map eI),.int .i64 p.result]
def Bp (x:Ag):List AV:=[.sl (x.decls.map Am),.sl (x.funcs.map Dd)]
noncomputable def cY (s:Dy):List AV:=
 Dy.rec (motive_1:=λ_=>List AV) (motive_2:=λ_=>List (List AV)) (λo n _ ks=>[.int .i64 o,.int .i64 n,.sl ks]) [] (λ_ _ b bs=>b::bs) s
noncomputable def Il (f:IK):List AV:=[.sl (f.params.map eI),.int .i64 f.result,.int .i64 f.body.op,.int .i64 f.body.num,.sl (f.body.kids.map cY)]
structure S9 (c:Bh):Prop where
 fields:FO KZ c.fields
structure Py (d:Ac):Prop where
 from_:KZ d.from_
 to:KZ d.to
 cons:FO S9 d.cons
end RC
namespace RC
open Go Go.Abs
structure Ad where
 params:List Int
 Ar:List Int
 result:Int
 body:Block
noncomputable def Aj (r:Ad):List AV:=[.sl (r.params.map eI),.sl (r.Ar.map eI),.int .i64 r.result,.sl (r.body.steps.map Bx),.int .i64 r.body.result]
structure AT where
 decls:List Ac
 AH:List Ad
noncomputable def Xv (p:AT):List AV:=[.sl (p.decls.map Am),.sl (p.AH.map Aj)]
end RC
namespace RC
open Go Go.Abs
theorem P1 {α:Type}{l:List α}{enc sd:α->List AV}(h :∀x,Hh (enc x)=sd x):J8 (l.map enc)=l.map sd:=by
 rw[II,ny];exact mj λx _=>h x
theorem Yc (n:Int):Hh (eI n)=eI n:=rfl
end RC
namespace RC
open Go Go.Abs
end RC
namespace RC
open Go Go.Abs
def Cv (a:Nat)(c:Bh):List AV:=[.dv a 1 (c.fields.map eI)]
theorem ZE {a:Nat}(c:Bh):Hh (Cv a c)=Bv c:=by
 simp only[Cv,Hh,Ox,P1 Yc,Bv]
def Az (a b:Nat)(d:Ac):List AV:=[.int .i64 d.from_,.int .i64 d.to,.dv a 1 (d.cons.map (Cv b))]
theorem Fu {a b:Nat}(d:Ac):Hh (Az a b d)=Am d:=by
 simp only[Az,Hh,Ox,P1 ZE,Am]
end RC
namespace RC
open Go Go.Abs
noncomputable def Bu (x y z:Nat)(s:Step):List AV:=
 Step.rec (motive_1:=λ_=>List AV) (motive_2:=λ_=>List (List AV)) (motive_3:=λ_=>List AV) (motive_4:=λ_=>List (List AV))
  (λo n i a _ ks=>[.int .i64 o,.int .i64 n,.int .i64 i,.dv x 1 (a.map eI),.dv y 2 ks])
  [] (λ_ _ b bs=>b::bs) (λ_ r ss=>[.dv z 5 ss,.int .i64 r]) [] (λ_ _ s ss=>s::ss) s
noncomputable def Co (x y z:Nat)(b:Block):List AV:=[.dv z 5 (b.steps.map (Bu x y z)),.int .i64 b.result]
theorem YN (x y z:Nat)(ks:List Block):
  Step.rec_1 (motive_1:=λ_=>List AV) (motive_2:=λ_=>List (List AV)) (motive_3:=λ_=>List AV) (motive_4:=λ_=>List (List AV))
  (λo n i a _ ks=>[.int .i64 o,.int .i64 n,.int .i64 i,.dv x 1 (a.map eI),.dv y 2 ks])
  [] (λ_ _ b bs=>b::bs) (λ_ r ss=>[.dv z 5 ss,.int .i64 r]) [] (λ_ _ s ss=>s::ss) ks=ks.map (Co x y z):=by
 have key:∀ss:List Step,Step.rec_3 (motive_1:=λ_=>List AV) (motive_2:=λ_=>List (List AV)) (motive_3:=λ_=>List AV) (motive_4:=λ_=>List (List AV))
  (λo n i a _ ks=>[.int .i64 o,.int .i64 n,.int .i64 i,.dv x 1 (a.map eI),.dv y 2 ks])
  [] (λ_ _ b bs=>b::bs) (λ_ r ss=>[.dv z 5 ss,.int .i64 r]) [] (λ_ _ s ss=>s::ss) ss=ss.map (Bu x y z):=by
  intro ss
  induction ss with
  | nil=>rfl
  | cons s ss ih=>exact mr (Bu x y z s::·) ih
 induction ks with
 | nil=>rfl
 | cons b ks ih=>
  obtain⟨ss,r⟩:=b;exact (mr (·::_) (mr (λx=>[AV.dv z 5 x,AV.int .i64 r]) (key ss))).trans (mr (Co x y z ⟨ss,r⟩::·) ih)
theorem DK {x y z:Nat}(s:Step):Bu x y z s=[.int .i64 s.op,.int .i64 s.num,.int .i64 s.BB,.dv x 1 (s.args.map eI),.dv y 2 (s.kids.map (Co x y z))]:=by
 obtain⟨o,n,i,a,k⟩:=s;exact mr (λq=>[AV.int .i64 o,.int .i64 n,.int .i64 i,.dv x 1 (a.map eI),.dv y 2 q]) (YN x y z k)
theorem An {x y z:Nat}(s:Step):(Bu x y z s).all Em=true:=by rw[DK];rfl
theorem Jp {x y z:Nat}(s:Step):(Bu x y z s).all QF=true:=by rw[DK];rfl
theorem Y8 {x y z:Nat}(s:Step):(Bu x y z s).length=5:=by rw[DK];rfl
mutual
theorem UO {x y z:Nat}:∀s:Step,Hh (Bu x y z s)=Bx s
 | .mk o n i a k=>by
  rw[DK,CK];simp only[Hh,Ox,Step.op,Step.num,Step.BB,Step.args,Step.kids,P1 Yc,RV k]
theorem RV {x y z:Nat}:∀l:List (Gh Step),J8 (l.map (Co x y z))=l.map Bq
 | []=>rfl
 | b::l=>by simp only[mg,J8,YP b,RV l]
theorem YP {x y z:Nat}:∀b:Gh Step,Hh (Co x y z b)=Bq b
 | ⟨ss,r⟩=>by
  show Hh [.dv z 5 (ss.map (Bu x y z)),.int .i64 r]=[.sl (ss.map Bx),.int .i64 r]
  simp only[Hh,Ox,Ss ss]
theorem Ss {x y z:Nat}:∀l:List Step,J8 (l.map (Bu x y z))=l.map Bx
 | []=>rfl
 | s::l=>by simp only[mg,J8,UO s,Ss l]
end
noncomputable def At (a b x y z:Nat)(r:Ad):List AV:=[.dv a 1 (r.params.map eI),.dv b 1 (r.Ar.map eI),.int .i64 r.result,.dv z 5 (r.body.steps.map (Bu x y z)),.int .i64 r.body.result]
theorem EI {a b x y z:Nat}(r:Ad):Hh (At a b x y z r)=Aj r:=by
 simp only[At,Hh,Ox,P1 Yc,P1 UO,Aj]
end RC
namespace RC
end RC
