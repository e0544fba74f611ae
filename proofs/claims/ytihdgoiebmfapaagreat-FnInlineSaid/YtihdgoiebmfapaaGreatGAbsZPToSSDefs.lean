import Derived.Test.YtihdgoiebmfapaaGreatGAbsXToAbsZN
import Derived.Test.YtihdgoiebmfapaaGreatAbsQ
import Derived.Lib.SlicesCompact
set_option linter.all false
namespace Go.Abs
open Go
section
variable {P : Program} {k : Nat} {ops ops' : Array Oper} {Q : Exit -> St -> Prop} {N f f' n : Nat} {l l' : Array Bool} {s s' : St} {A : Nat -> Array Bool -> St -> Prop} {L : List (Nat × AV)} {st : List Row} {e : Nat -> AV} {ds : List (Option Tmp)} {t : Tmp} {op : Op} {ty : TypeId} {ps : String} {ed : Array Edge} {v : AV} {o : Oper}
theorem xw (hA :∀f l s,A f l s↔AX P k ops Q N f l s)(h:A f l s')(hw:Wk k s s')(hl:l=l':=by kernel_rfl)(hn:s.n=N:=by exact rfl):AX P k ops Q N f l' s:=BK hw (Bp hl ((hA _ _ _).1 h)) hn
theorem yw (hA :∀f l s,A f l s↔AY P k ops Q N f l s)(h:A f l s')(hw:Wk k s s')(hl:l=l':=by kernel_rfl)(hn:s.n=N:=by exact rfl):AY P k ops Q N f l' s:=Mt hw (ZM hl ((hA _ _ _).1 h)) hn
theorem xt (hA :∀f l s,A f l s↔AX P k ops Q N f l s)(h:A f l ⟨n,AP L,st⟩)(hw:UJ e L=UQ L:=by exact rfl)(hl:l=l':=by kernel_rfl)(hn:n=N:=by exact rfl):AX P k ops Q N f l' ⟨n,e,st⟩:=xw hA h (CF hw) hl hn
theorem lT (hA :∀f l s,A f l s↔AY P k ops Q N f l s)(h:A f l ⟨n,AP L,st⟩)(hw:UJ e L=UQ L:=by exact rfl)(hl:l=l':=by kernel_rfl)(hn:n=N:=by exact rfl):AY P k ops Q N f l' ⟨n,e,st⟩:=yw hA h (CF hw) hl hn
theorem QC (hA :∀f l s,A f l s↔AX P k ops Q N f l s)(h:A f l s')(hw:Wk k s s')(hl:l=l':=by kernel_rfl)(hn:s.n=N:=by exact rfl):AO P k ops' (λe s'=>e=.normal/\AX P k ops Q N f l' s') ds [] s:=AB ⟨rfl,xw hA h hw hl hn⟩
theorem kq (hA :∀f l s,A f l s↔AY P k ops Q N f l s)(h:A f l s')(hw:Wk k s s')(hl:l=l':=by kernel_rfl)(hn:s.n=N:=by exact rfl):AO P k ops' (λe s'=>e=.normal/\AY P k ops Q N f l' s') ds [] s:=AB ⟨rfl,yw hA h hw hl hn⟩
theorem xd (hA :∀f l s,A f l s↔AX P k ops Q N f l s)(h:A f l ⟨n,AP L,st⟩)(hw:UJ e L=UQ L:=by exact rfl)(hl:l=l':=by kernel_rfl)(hn:n=N:=by exact rfl):AO P k ops' (λe s'=>e=.normal/\AX P k ops Q N f l' s') ds [] ⟨n,e,st⟩:=AB ⟨rfl,xt hA h hw hl hn⟩
theorem yd (hA :∀f l s,A f l s↔AY P k ops Q N f l s)(h:A f l ⟨n,AP L,st⟩)(hw:UJ e L=UQ L:=by exact rfl)(hl:l=l':=by kernel_rfl)(hn:n=N:=by exact rfl):AO P k ops' (λe s'=>e=.normal/\AY P k ops Q N f l' s') ds [] ⟨n,e,st⟩:=AB ⟨rfl,lT hA h hw hl hn⟩
theorem xo (i:Nat)(h:AO P k (ops.extract 0 (i+1)) (λe s'=>e=.normal/\AX P k ops Q N f (l.setIfInBounds i true) s') ((ops.toList.take i).map (·.dst)) [o] s)(ho:ops[i]?=some o:=by exact rfl)(hg:Oz o i=true:=by exact rfl)(hd:(ops.toList.all λo=>Cx s.n o.dst)=true:=by rfl):Jo P k ops Q N f l s i:=Jo.of ho hg hd h
theorem yo (i:Nat)(h:AO P k (ops.extract 0 (i+1)) (λe s'=>e=.normal/\AY P k ops Q N f (l.setIfInBounds i true) s') ((ops.toList.take i).map (·.dst)) [o] s)(ho:ops[i]?=some o:=by exact rfl)(hg:Oz o i=true:=by exact rfl)(hd:(ops.toList.all λo=>Cx s.n o.dst)=true:=by rfl):bW P k ops Q N f l s i:=bW.of ho hg hd h
theorem xq {i:Nat}(T:LP P)(hA :∀f l s,A f l s↔AX P k ops Q N f l s)(h:A f l' ⟨n,AP L,st⟩)(ho:ops[i]?=some ⟨some t,op,ty,ps,ed,none⟩:=by exact rfl)(hd:(ops.toList.all λo=>Cx n o.dst)=true:=by rfl)
  (hq:qL T ⟨n,e,st⟩ op=some v:=by exact rfl) (hw:UJ (DQ e t v) L=UQ L:=by exact rfl) (hl:l'=l.setIfInBounds i true:=by kernel_rfl) (hn:n=N:=by exact rfl):Jo P k ops Q N f l ⟨n,e,st⟩ i:=Jo.of ho rfl hd (zq T hq (xd hA h hw hl hn))
theorem lh {i:Nat}(T:LP P)(hA :∀f l s,A f l s↔AY P k ops Q N f l s)(h:A f l' ⟨n,AP L,st⟩)(ho:ops[i]?=some ⟨some t,op,ty,ps,ed,none⟩:=by exact rfl)(hd:(ops.toList.all λo=>Cx n o.dst)=true:=by rfl)
  (hq:qL T ⟨n,e,st⟩ op=some v:=by exact rfl) (hw:UJ (DQ e t v) L=UQ L:=by exact rfl) (hl:l'=l.setIfInBounds i true:=by kernel_rfl) (hn:n=N:=by exact rfl):bW P k ops Q N f l ⟨n,e,st⟩ i:=bW.of ho rfl hd (zq T hq (yd hA h hw hl hn))
theorem xa (rs:List Nat)(h:iR P k ops Q N f l s rs)(hr:Region.ready .any ops l=rs:=by kernel_rfl)(uu:rs≠[]:=by decide)(hn:s.n=N:=by exact rfl):AX P k ops Q N (f+1) l s:=AX.all rs hn hr uu h
theorem ya (rs:List Nat)(h:gr P k ops Q N f l s rs)(hr:Region.ready .any ops l=rs:=by kernel_rfl)(uu:rs≠[]:=by decide)(hn:s.n=N:=by exact rfl):AY P k ops Q N (f+1) l s:=AY.all rs hn hr uu h
theorem rt {Q:Exit->St->Prop}{q:St->Prop}(L:List (Nat×AV))(h:UJ e L=UQ L:=by exact rfl)(hq:Q .ret ⟨n,e,st⟩ =∃a,Wk k ⟨n,e,st⟩ a/\q a:=by exact rfl)(g:q ⟨n,AP L,st⟩:=by exact And.intro rfl rfl):AW P k .ret Q ⟨n,e,st⟩:=An (hq▸⟨_,CF h,g⟩)
theorem rd {Q:Exit->St->Prop}{q:St->Prop}(L:List (Nat×AV))(h:UJ (λt=>Jk [] (e t)) L=UQ L:=by exact rfl)(hq:Q .ret ⟨n,e,st⟩ =∃a,Wk 0 ⟨n,e,st⟩ a/\q a:=by exact rfl)(g:q ⟨n,AP L,[]⟩:=by exact And.intro rfl rfl):AW P 0 .ret Q ⟨n,e,st⟩:=An (hq▸⟨_,Be L h,g⟩)
end
end Go.Abs
namespace RC
open Go Go.Abs
structure Cell where
 count:Int
 tag:Int
 fields:List Int
def eI (n:Int):List AV:=[.int .i64 n]
def FQ (n:Int):List AV:=[.int .u8 n]
def eB (b:Bool):List AV:=[.bool b]
def eS {α:Type}(e:α->List AV)(l:List α):List AV:=[.sl (l.map e)]
def HB (n:Int):Prop:=-9223372036854775808<=n/\n<=9223372036854775807
def U8 (n:Int):Prop:=0<=n/\n<=255
def Iz {α:Type}(Xa:α->Prop)(l:List α):Prop:=(∀x∈l,Xa x)/\l.length<=9223372036854775807
structure aW (c:Cell):Prop where
 count:HB c.count
 tag:HB c.tag
 NJ:Iz HB c.fields
theorem aW.len {c:Cell}(h:aW c):c.fields.length<=9223372036854775807:=h.NJ.2
end RC
namespace RC
open Go Go.Abs
structure MN (S:Type) where
 steps:List S
 result:Int
inductive Step where
 |mk (op num cy:Int) (args:List Int) (kids:List (MN Step))
abbrev Block:=MN Step
@[reducible] def Block.mk (steps:List Step)(result:Int):Block:=⟨steps,result⟩
def Step.op:Step->Int|.mk o _ _ _ _=>o
def Step.num:Step->Int|.mk _ n _ _ _=>n
def Step.cy:Step->Int|.mk _ _ i _ _=>i
def Step.args:Step->List Int|.mk _ _ _ a _=>a
def Step.kids:Step->List Block|.mk _ _ _ _ k=>k
noncomputable def az (s:Step):List AV:=
 Step.rec (motive_1:=λ_=>List AV) (motive_2:=λ_=>List (List AV)) (motive_3:=λ_=>List AV) (motive_4:=λ_=>List (List AV))
  (λo n i a _ ks=>[.int .i64 o,.int .i64 n,.int .i64 i,.sl (a.map eI),.sl ks])
  [] (λ_ _ b bs=>b::bs) (λ_ r ss=>[.sl ss,.int .i64 r]) [] (λ_ _ s ss=>s::ss) s
noncomputable def Z9 (b:Block):List AV:=[.sl (b.steps.map az),.int .i64 b.result]
theorem bk (ks:List Block):
  Step.rec_1 (motive_1:=λ_=>List AV) (motive_2:=λ_=>List (List AV)) (motive_3:=λ_=>List AV) (motive_4:=λ_=>List (List AV))
  (λo n i a _ ks=>[.int .i64 o,.int .i64 n,.int .i64 i,.sl (a.map eI),.sl ks])
  [] (λ_ _ b bs=>b::bs) (λ_ r ss=>[.sl ss,.int .i64 r]) [] (λ_ _ s ss=>s::ss) ks=ks.map Z9:=by
 have key:∀ss:List Step,Step.rec_3 (motive_1:=λ_=>List AV) (motive_2:=λ_=>List (List AV)) (motive_3:=λ_=>List AV) (motive_4:=λ_=>List (List AV))
  (λo n i a _ ks=>[.int .i64 o,.int .i64 n,.int .i64 i,.sl (a.map eI),.sl ks])
  [] (λ_ _ b bs=>b::bs) (λ_ r ss=>[.sl ss,.int .i64 r]) [] (λ_ _ s ss=>s::ss) ss=ss.map az:=by
  intro ss
  induction ss with
  |nil=>rfl
  |cons s ss ih=>exact qY (az s::·) ih
 induction ks with
 |nil=>rfl
 |cons b ks ih=>
  obtain⟨ss,r⟩:=b;exact (qY (·::_) (qY (λx=>[AV.sl x,AV.int .i64 r]) (key ss))).trans (qY (Z9 ⟨ss,r⟩::·) ih)
theorem nQ (s:Step):az s=[.int .i64 s.op,.int .i64 s.num,.int .i64 s.cy,.sl (s.args.map eI),.sl (s.kids.map Z9)]:=by
 obtain⟨o,n,i,a,k⟩:=s;exact qY (λx=>[AV.int .i64 o,.int .i64 n,.int .i64 i,.sl (a.map eI),.sl x]) (bk k)
end RC
namespace RC
open Go Go.Abs
structure D6 where
 fields:List Int
structure AL where
 from_:Int
 to:Int
 cons:List D6
structure aK where
 op:Int
 dst:Int
 num:Int
 cy:Int
 args:List Int
 jumps:List Int
structure eK where
 params:List Int
 Gb:List Int
 result:Int
 oM:Int
 code:List aK
structure lI where
 decls:List AL
 procs:List eK
structure By where
 params:List Int
 Gb:List Int
 result:Int
structure BO where
 decls:List AL
 funcs:List By
inductive AD where
 |mk (op num:Int) (kids:List AD)
def AD.op:AD->Int|.mk o _ _=>o
def AD.num:AD->Int|.mk _ n _=>n
def AD.kids:AD->List AD|.mk _ _ k=>k
theorem KG (s:AD):s=AD.mk s.op s.num s.kids:=by cases s;rfl
structure AU where
 params:List Int
 result:Int
 body:AD
structure AJ where
 decls:List AL
 funcs:List AU
def CM (c:D6):List AV:=[.sl (c.fields.map eI)]
def Ai (d:AL):List AV:=[.int .i64 d.from_,.int .i64 d.to,.sl (d.cons.map CM)]
def Cv (p:By):List AV:=[.sl (p.params.map eI),.sl (p.Gb.map eI),.int .i64 p.result]
def Gy (x:BO):List AV:=[.sl (x.decls.map Ai),.sl (x.funcs.map Cv)]
noncomputable def Ar (s:AD):List AV:=
 AD.rec (motive_1:=λ_=>List AV) (motive_2:=λ_=>List (List AV)) (λo n _ ks=>[.int .i64 o,.int .i64 n,.sl ks]) [] (λ_ _ b bs=>b::bs) s
theorem ar (ks:List AD):
  AD.rec_1 (motive_1:=λ_=>List AV) (motive_2:=λ_=>List (List AV)) (λo n _ ks=>[.int .i64 o,.int .i64 n,.sl ks]) [] (λ_ _ b bs=>b::bs) ks=ks.map Ar:=by
 induction ks with
 |nil=>rfl
 |cons b ks ih=>exact qY (Ar b::·) ih
theorem Af (s:AD):Ar s=[.int .i64 s.op,.int .i64 s.num,.sl (s.kids.map Ar)]:=by
 obtain⟨o,n,k⟩:=s;exact qY (λx=>[AV.int .i64 o,.int .i64 n,.sl x]) (ar k)
theorem Aa (s:AD):(Ar s).all simple=true:=by rw[Af];rfl
theorem DY (s:AD):(Ar s).length=3:=by rw[Af];rfl
noncomputable def BT (f:AU):List AV:=[.sl (f.params.map eI),.int .i64 f.result,.int .i64 f.body.op,.int .i64 f.body.num,.sl (f.body.kids.map Ar)]
noncomputable def mW (x:AJ):List AV:=[.sl (x.decls.map Ai),.sl (x.funcs.map BT)]
structure ke (c:D6):Prop where
 fields:Iz HB c.fields
structure Nm (d:AL):Prop where
 from_:HB d.from_
 to:HB d.to
 cons:Iz ke d.cons
end RC
namespace RC
open Go Go.Abs
inductive Ak:AD->Prop where
 |mk {e:AD}:HB e.op->HB e.num->e.kids.length<=9223372036854775807->(∀k∈e.kids,Ak k)->Ak e
theorem Ak.op {e:AD}(h:Ak e):HB e.op:=by cases h;assumption
theorem Ak.num {e:AD}(h:Ak e):HB e.num:=by cases h;assumption
theorem Ak.Kc {e:AD}(h:Ak e):e.kids.length<=9223372036854775807:=by cases h;assumption
theorem Ak.kids {e:AD}(h:Ak e):∀k∈e.kids,Ak k:=by cases h;assumption
theorem mN (a0:List Int)(a1:Int)(a2:AD):BT ⟨a0,a1,a2⟩=eS eI a0++(eI a1++Ar a2):=by rw[Af];rfl
structure Xe (f:AU):Prop where
 params:Iz HB f.params
 result:HB f.result
 body:Ak f.body
structure cW (p:AJ):Prop where
 decls:Iz Nm p.decls
 funcs:Iz Xe p.funcs
structure gk where
 params:List Int
 Gb:List Int
 result:Int
 body:Block
structure JG where
 decls:List AL
 nR:List gk
end RC
namespace RC
open Go Go.Abs
theorem Tb {α:Type}{l:List α}{enc vq:α->List AV}(h :∀x,Ih (enc x)=vq x):LN (l.map enc)=l.map vq:=by
 rw[Ia,rG];exact ph λx _=>h x
theorem fQ (n:Int):Ih (eI n)=eI n:=rfl
end RC
namespace RC
open Go Go.Abs
end RC
namespace RC
open Go Go.Abs
def Hw (a:Nat)(c:D6):List AV:=[.dv a 1 (c.fields.map eI)]
theorem cg {a:Nat}(c:D6):Ih (Hw a c)=CM c:=by
 simp only[Hw,Ih,QG,Tb fQ,CM]
def Bu (a b:Nat)(d:AL):List AV:=[.int .i64 d.from_,.int .i64 d.to,.dv a 1 (d.cons.map (Hw b))]
theorem au {a b:Nat}(d:AL):Ih (Bu a b d)=Ai d:=by
 simp only[Bu,Ih,QG,Tb cg,Ai]
end RC
namespace RC
open Go Go.Abs
noncomputable def Bv (a:Nat)(s:AD):List AV:=
 AD.rec (motive_1:=λ_=>List AV) (motive_2:=λ_=>List (List AV)) (λo n _ ks=>[.int .i64 o,.int .i64 n,.dv a 3 ks]) [] (λ_ _ b bs=>b::bs) s
theorem Y3 (a:Nat)(ks:List AD):
  AD.rec_1 (motive_1:=λ_=>List AV) (motive_2:=λ_=>List (List AV)) (λo n _ ks=>[.int .i64 o,.int .i64 n,.dv a 3 ks]) [] (λ_ _ b bs=>b::bs) ks=ks.map (Bv a):=by
 induction ks with
 |nil=>rfl
 |cons b ks ih=>exact qY (Bv a b::·) ih
theorem Iq {a:Nat}(s:AD):Bv a s=[.int .i64 s.op,.int .i64 s.num,.dv a 3 (s.kids.map (Bv a))]:=by
 obtain⟨o,n,k⟩:=s;exact qY (λx=>[AV.int .i64 o,.int .i64 n,.dv a 3 x]) (Y3 a k)
theorem BD {a:Nat}(s:AD):(Bv a s).all E6=true:=by rw[Iq];rfl
theorem HY {a:Nat}(s:AD):(Bv a s).all QZ=true:=by rw[Iq];rfl
mutual
theorem Mn {a:Nat}:∀s:AD,Ih (Bv a s)=Ar s
 |.mk o n k=>by
  rw[Iq,Af];simp only[Ih,QG,AD.op,AD.num,AD.kids,SE k]
theorem SE {a:Nat}:∀l:List AD,LN (l.map (Bv a))=l.map Ar
 | []=>rfl
 |e::l=>by simp only[pd,LN,Mn e,SE l]
end
noncomputable def ER (a b:Nat)(f:AU):List AV:=[.dv a 1 (f.params.map eI),.int .i64 f.result,.int .i64 f.body.op,.int .i64 f.body.num,.dv b 3 (f.body.kids.map (Bv b))]
theorem aD {a b:Nat}(f:AU):Ih (ER a b f)=BT f:=by
 simp only[ER,Ih,QG,Tb fQ,Tb Mn,BT]
end RC
namespace RC
end RC
