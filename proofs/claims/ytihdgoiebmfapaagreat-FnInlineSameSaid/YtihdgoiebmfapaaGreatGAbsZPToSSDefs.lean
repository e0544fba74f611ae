import Derived.Test.YtihdgoiebmfapaaGreatGAbsXToAbsZN
import Derived.Test.YtihdgoiebmfapaaGreatAbsQ
import Derived.Lib.SlicesCompact
set_option linter.all false
namespace Go.Abs
open Go
section
variable {P : Program} {k : Nat} {ops ops' : Array Oper} {Q : Exit -> St -> Prop} {N f f' n : Nat} {l l' : Array Bool} {s s' : St} {A : Nat -> Array Bool -> St -> Prop} {L : List (Nat × AV)} {st : List Row} {e : Nat -> AV} {ds : List (Option Tmp)} {t : Tmp} {op : Op} {ty : TypeId} {ps : String} {ed : Array Edge} {v : AV} {o : Oper}
theorem xw (hA :∀f l s,A f l s↔AX P k ops Q N f l s)(h:A f l s')(hw:Wk k s s')(hl:l=l':=by kernel_rfl)(hn:s.n=N:=by exact rfl):AX P k ops Q N f l' s:=BK hw (Bp hl ((hA _ _ _).1 h)) hn
theorem yw (hA :∀f l s,A f l s↔AY P k ops Q N f l s)(h:A f l s')(hw:Wk k s s')(hl:l=l':=by kernel_rfl)(hn:s.n=N:=by exact rfl):AY P k ops Q N f l' s:=Mw hw (ZR hl ((hA _ _ _).1 h)) hn
theorem xt (hA :∀f l s,A f l s↔AX P k ops Q N f l s)(h:A f l ⟨n,AP L,st⟩)(hw:Tw e L=TF L:=by exact rfl)(hl:l=l':=by kernel_rfl)(hn:n=N:=by exact rfl):AX P k ops Q N f l' ⟨n,e,st⟩:=xw hA h (Bz hw) hl hn
theorem kZ (hA :∀f l s,A f l s↔AY P k ops Q N f l s)(h:A f l ⟨n,AP L,st⟩)(hw:Tw e L=TF L:=by exact rfl)(hl:l=l':=by kernel_rfl)(hn:n=N:=by exact rfl):AY P k ops Q N f l' ⟨n,e,st⟩:=yw hA h (Bz hw) hl hn
theorem QG (hA :∀f l s,A f l s↔AX P k ops Q N f l s)(h:A f l s')(hw:Wk k s s')(hl:l=l':=by kernel_rfl)(hn:s.n=N:=by exact rfl):AO P k ops' (λe s'=>e=.normal/\AX P k ops Q N f l' s') ds [] s:=AB ⟨rfl,xw hA h hw hl hn⟩
theorem lX (hA :∀f l s,A f l s↔AY P k ops Q N f l s)(h:A f l s')(hw:Wk k s s')(hl:l=l':=by kernel_rfl)(hn:s.n=N:=by exact rfl):AO P k ops' (λe s'=>e=.normal/\AY P k ops Q N f l' s') ds [] s:=AB ⟨rfl,yw hA h hw hl hn⟩
theorem xd (hA :∀f l s,A f l s↔AX P k ops Q N f l s)(h:A f l ⟨n,AP L,st⟩)(hw:Tw e L=TF L:=by exact rfl)(hl:l=l':=by kernel_rfl)(hn:n=N:=by exact rfl):AO P k ops' (λe s'=>e=.normal/\AX P k ops Q N f l' s') ds [] ⟨n,e,st⟩:=AB ⟨rfl,xt hA h hw hl hn⟩
theorem yd (hA :∀f l s,A f l s↔AY P k ops Q N f l s)(h:A f l ⟨n,AP L,st⟩)(hw:Tw e L=TF L:=by exact rfl)(hl:l=l':=by kernel_rfl)(hn:n=N:=by exact rfl):AO P k ops' (λe s'=>e=.normal/\AY P k ops Q N f l' s') ds [] ⟨n,e,st⟩:=AB ⟨rfl,kZ hA h hw hl hn⟩
theorem xo (i:Nat)(h:AO P k (ops.extract 0 (i+1)) (λe s'=>e=.normal/\AX P k ops Q N f (l.setIfInBounds i true) s') ((ops.toList.take i).map (·.dst)) [o] s)(ho:ops[i]?=some o:=by exact rfl)(hg:Ou o i=true:=by exact rfl)(hd:(ops.toList.all λo=>Cy s.n o.dst)=true:=by rfl):Jp P k ops Q N f l s i:=Jp.of ho hg hd h
theorem yo (i:Nat)(h:AO P k (ops.extract 0 (i+1)) (λe s'=>e=.normal/\AY P k ops Q N f (l.setIfInBounds i true) s') ((ops.toList.take i).map (·.dst)) [o] s)(ho:ops[i]?=some o:=by exact rfl)(hg:Ou o i=true:=by exact rfl)(hd:(ops.toList.all λo=>Cy s.n o.dst)=true:=by rfl):bU P k ops Q N f l s i:=bU.of ho hg hd h
theorem xq {i:Nat}(T:LN P)(hA :∀f l s,A f l s↔AX P k ops Q N f l s)(h:A f l' ⟨n,AP L,st⟩)(ho:ops[i]?=some ⟨some t,op,ty,ps,ed,none⟩:=by exact rfl)(hd:(ops.toList.all λo=>Cy n o.dst)=true:=by rfl)
  (hq:qL T ⟨n,e,st⟩ op=some v:=by exact rfl) (hw:Tw (DQ e t v) L=TF L:=by exact rfl) (hl:l'=l.setIfInBounds i true:=by kernel_rfl) (hn:n=N:=by exact rfl):Jp P k ops Q N f l ⟨n,e,st⟩ i:=Jp.of ho rfl hd (zq T hq (xd hA h hw hl hn))
theorem la {i:Nat}(T:LN P)(hA :∀f l s,A f l s↔AY P k ops Q N f l s)(h:A f l' ⟨n,AP L,st⟩)(ho:ops[i]?=some ⟨some t,op,ty,ps,ed,none⟩:=by exact rfl)(hd:(ops.toList.all λo=>Cy n o.dst)=true:=by rfl)
  (hq:qL T ⟨n,e,st⟩ op=some v:=by exact rfl) (hw:Tw (DQ e t v) L=TF L:=by exact rfl) (hl:l'=l.setIfInBounds i true:=by kernel_rfl) (hn:n=N:=by exact rfl):bU P k ops Q N f l ⟨n,e,st⟩ i:=bU.of ho rfl hd (zq T hq (yd hA h hw hl hn))
theorem xa (rs:List Nat)(h:iG P k ops Q N f l s rs)(hr:Region.ready .any ops l=rs:=by kernel_rfl)(uq:rs≠[]:=by decide)(hn:s.n=N:=by exact rfl):AX P k ops Q N (f+1) l s:=AX.all rs hn hr uq h
theorem ya (rs:List Nat)(h:gP P k ops Q N f l s rs)(hr:Region.ready .any ops l=rs:=by kernel_rfl)(uq:rs≠[]:=by decide)(hn:s.n=N:=by exact rfl):AY P k ops Q N (f+1) l s:=AY.all rs hn hr uq h
theorem rt {Q:Exit->St->Prop}{q:St->Prop}(L:List (Nat×AV))(h:Tw e L=TF L:=by exact rfl)(hq:Q .ret ⟨n,e,st⟩ =∃a,Wk k ⟨n,e,st⟩ a/\q a:=by exact rfl)(g:q ⟨n,AP L,st⟩:=by exact And.intro rfl rfl):AW P k .ret Q ⟨n,e,st⟩:=Am (hq▸⟨_,Bz h,g⟩)
theorem rd {Q:Exit->St->Prop}{q:St->Prop}(L:List (Nat×AV))(h:Tw (λt=>Jn [] (e t)) L=TF L:=by exact rfl)(hq:Q .ret ⟨n,e,st⟩ =∃a,Wk 0 ⟨n,e,st⟩ a/\q a:=by exact rfl)(g:q ⟨n,AP L,[]⟩:=by exact And.intro rfl rfl):AW P 0 .ret Q ⟨n,e,st⟩:=Am (hq▸⟨_,Be L h,g⟩)
end
end Go.Abs
namespace RC
open Go Go.Abs
structure Cell where
 count:Int
 tag:Int
 fields:List Int
def eI (n:Int):List AV:=[.int .i64 n]
def FP (n:Int):List AV:=[.int .u8 n]
def eB (b:Bool):List AV:=[.bool b]
def eS {α:Type}(e:α->List AV)(l:List α):List AV:=[.sl (l.map e)]
def HC (n:Int):Prop:=-9223372036854775808<=n/\n<=9223372036854775807
def U8 (n:Int):Prop:=0<=n/\n<=255
def I2 {α:Type}(XT:α->Prop)(l:List α):Prop:=(∀x∈l,XT x)/\l.length<=9223372036854775807
structure bG (c:Cell):Prop where
 count:HC c.count
 tag:HC c.tag
 Nc:I2 HC c.fields
theorem bG.len {c:Cell}(h:bG c):c.fields.length<=9223372036854775807:=h.Nc.2
end RC
namespace RC
open Go Go.Abs
structure MD (S:Type) where
 steps:List S
 result:Int
inductive Step where
 |mk (op num bV:Int) (args:List Int) (kids:List (MD Step))
abbrev Block:=MD Step
@[reducible] def Block.mk (steps:List Step)(result:Int):Block:=⟨steps,result⟩
def Step.op:Step->Int|.mk o _ _ _ _=>o
def Step.num:Step->Int|.mk _ n _ _ _=>n
def Step.bV:Step->Int|.mk _ _ i _ _=>i
def Step.args:Step->List Int|.mk _ _ _ a _=>a
def Step.kids:Step->List Block|.mk _ _ _ _ k=>k
noncomputable def bO (s:Step):List AV:=
 Step.rec (motive_1:=λ_=>List AV) (motive_2:=λ_=>List (List AV)) (motive_3:=λ_=>List AV) (motive_4:=λ_=>List (List AV))
  (λo n i a _ ks=>[.int .i64 o,.int .i64 n,.int .i64 i,.sl (a.map eI),.sl ks])
  [] (λ_ _ b bs=>b::bs) (λ_ r ss=>[.sl ss,.int .i64 r]) [] (λ_ _ s ss=>s::ss) s
noncomputable def aB (b:Block):List AV:=[.sl (b.steps.map bO),.int .i64 b.result]
theorem bn (ks:List Block):
  Step.rec_1 (motive_1:=λ_=>List AV) (motive_2:=λ_=>List (List AV)) (motive_3:=λ_=>List AV) (motive_4:=λ_=>List (List AV))
  (λo n i a _ ks=>[.int .i64 o,.int .i64 n,.int .i64 i,.sl (a.map eI),.sl ks])
  [] (λ_ _ b bs=>b::bs) (λ_ r ss=>[.sl ss,.int .i64 r]) [] (λ_ _ s ss=>s::ss) ks=ks.map aB:=by
 have key:∀ss:List Step,Step.rec_3 (motive_1:=λ_=>List AV) (motive_2:=λ_=>List (List AV)) (motive_3:=λ_=>List AV) (motive_4:=λ_=>List (List AV))
  (λo n i a _ ks=>[.int .i64 o,.int .i64 n,.int .i64 i,.sl (a.map eI),.sl ks])
  [] (λ_ _ b bs=>b::bs) (λ_ r ss=>[.sl ss,.int .i64 r]) [] (λ_ _ s ss=>s::ss) ss=ss.map bO:=by
  intro ss
  induction ss with
  |nil=>rfl
  |cons s ss ih=>exact qX (bO s::·) ih
 induction ks with
 |nil=>rfl
 |cons b ks ih=>
  obtain⟨ss,r⟩:=b;exact (qX (·::_) (qX (λx=>[AV.sl x,AV.int .i64 r]) (key ss))).trans (qX (aB ⟨ss,r⟩::·) ih)
theorem nO (s:Step):bO s=[.int .i64 s.op,.int .i64 s.num,.int .i64 s.bV,.sl (s.args.map eI),.sl (s.kids.map aB)]:=by
 obtain⟨o,n,i,a,k⟩:=s;exact qX (λx=>[AV.int .i64 o,.int .i64 n,.int .i64 i,.sl (a.map eI),.sl x]) (bn k)
end RC
namespace RC
open Go Go.Abs
structure D7 where
 fields:List Int
structure AK where
 from_:Int
 to:Int
 cons:List D7
structure Z7 where
 op:Int
 dst:Int
 num:Int
 bV:Int
 args:List Int
 jumps:List Int
structure eo where
 params:List Int
 Gb:List Int
 result:Int
 nT:Int
 code:List Z7
structure kx where
 decls:List AK
 procs:List eo
structure By where
 params:List Int
 Gb:List Int
 result:Int
structure BO where
 decls:List AK
 funcs:List By
inductive AD where
 |mk (op num:Int) (kids:List AD)
def AD.op:AD->Int|.mk o _ _=>o
def AD.num:AD->Int|.mk _ n _=>n
def AD.kids:AD->List AD|.mk _ _ k=>k
theorem KI (s:AD):s=AD.mk s.op s.num s.kids:=by cases s;rfl
structure AU where
 params:List Int
 result:Int
 body:AD
structure AJ where
 decls:List AK
 funcs:List AU
def CL (c:D7):List AV:=[.sl (c.fields.map eI)]
def Ah (d:AK):List AV:=[.int .i64 d.from_,.int .i64 d.to,.sl (d.cons.map CL)]
def Cv (p:By):List AV:=[.sl (p.params.map eI),.sl (p.Gb.map eI),.int .i64 p.result]
def Gx (x:BO):List AV:=[.sl (x.decls.map Ah),.sl (x.funcs.map Cv)]
noncomputable def Ar (s:AD):List AV:=
 AD.rec (motive_1:=λ_=>List AV) (motive_2:=λ_=>List (List AV)) (λo n _ ks=>[.int .i64 o,.int .i64 n,.sl ks]) [] (λ_ _ b bs=>b::bs) s
theorem au (ks:List AD):
  AD.rec_1 (motive_1:=λ_=>List AV) (motive_2:=λ_=>List (List AV)) (λo n _ ks=>[.int .i64 o,.int .i64 n,.sl ks]) [] (λ_ _ b bs=>b::bs) ks=ks.map Ar:=by
 induction ks with
 |nil=>rfl
 |cons b ks ih=>exact qX (Ar b::·) ih
theorem Af (s:AD):Ar s=[.int .i64 s.op,.int .i64 s.num,.sl (s.kids.map Ar)]:=by
 obtain⟨o,n,k⟩:=s;exact qX (λx=>[AV.int .i64 o,.int .i64 n,.sl x]) (au k)
theorem Aa (s:AD):(Ar s).all simple=true:=by rw[Af];rfl
theorem DV (s:AD):(Ar s).length=3:=by rw[Af];rfl
noncomputable def BP (f:AU):List AV:=[.sl (f.params.map eI),.int .i64 f.result,.int .i64 f.body.op,.int .i64 f.body.num,.sl (f.body.kids.map Ar)]
noncomputable def mm (x:AJ):List AV:=[.sl (x.decls.map Ah),.sl (x.funcs.map BP)]
structure lq (c:D7):Prop where
 fields:I2 HC c.fields
structure Ng (d:AK):Prop where
 from_:HC d.from_
 to:HC d.to
 cons:I2 lq d.cons
end RC
namespace RC
open Go Go.Abs
inductive Aj:AD->Prop where
 |mk {e:AD}:HC e.op->HC e.num->e.kids.length<=9223372036854775807->(∀k∈e.kids,Aj k)->Aj e
theorem Aj.op {e:AD}(h:Aj e):HC e.op:=by cases h;assumption
theorem Aj.num {e:AD}(h:Aj e):HC e.num:=by cases h;assumption
theorem Aj.KX {e:AD}(h:Aj e):e.kids.length<=9223372036854775807:=by cases h;assumption
theorem Aj.kids {e:AD}(h:Aj e):∀k∈e.kids,Aj k:=by cases h;assumption
theorem mJ (a0:List Int)(a1:Int)(a2:AD):BP ⟨a0,a1,a2⟩=eS eI a0++(eI a1++Ar a2):=by rw[Af];rfl
structure YH (f:AU):Prop where
 params:I2 HC f.params
 result:HC f.result
 body:Aj f.body
structure dB (p:AJ):Prop where
 decls:I2 Ng p.decls
 funcs:I2 YH p.funcs
structure iL where
 params:List Int
 Gb:List Int
 result:Int
 body:Block
structure JE where
 decls:List AK
 nQ:List iL
end RC
namespace RC
open Go Go.Abs
theorem TJ {α:Type}{l:List α}{enc vr:α->List AV}(h :∀x,IQ (enc x)=vr x):LL (l.map enc)=l.map vr:=by
 rw[Ib,rF];exact pf λx _=>h x
theorem fa (n:Int):IQ (eI n)=eI n:=rfl
end RC
namespace RC
open Go Go.Abs
end RC
namespace RC
open Go Go.Abs
def H8 (a:Nat)(c:D7):List AV:=[.dv a 1 (c.fields.map eI)]
theorem bY {a:Nat}(c:D7):IQ (H8 a c)=CL c:=by
 simp only[H8,IQ,QA,TJ fa,CL]
def Bu (a b:Nat)(d:AK):List AV:=[.int .i64 d.from_,.int .i64 d.to,.dv a 1 (d.cons.map (H8 b))]
theorem ax {a b:Nat}(d:AK):IQ (Bu a b d)=Ah d:=by
 simp only[Bu,IQ,QA,TJ bY,Ah]
end RC
namespace RC
open Go Go.Abs
noncomputable def Bv (a:Nat)(s:AD):List AV:=
 AD.rec (motive_1:=λ_=>List AV) (motive_2:=λ_=>List (List AV)) (λo n _ ks=>[.int .i64 o,.int .i64 n,.dv a 3 ks]) [] (λ_ _ b bs=>b::bs) s
theorem Y1 (a:Nat)(ks:List AD):
  AD.rec_1 (motive_1:=λ_=>List AV) (motive_2:=λ_=>List (List AV)) (λo n _ ks=>[.int .i64 o,.int .i64 n,.dv a 3 ks]) [] (λ_ _ b bs=>b::bs) ks=ks.map (Bv a):=by
 induction ks with
 |nil=>rfl
 |cons b ks ih=>exact qX (Bv a b::·) ih
theorem Iq {a:Nat}(s:AD):Bv a s=[.int .i64 s.op,.int .i64 s.num,.dv a 3 (s.kids.map (Bv a))]:=by
 obtain⟨o,n,k⟩:=s;exact qX (λx=>[AV.int .i64 o,.int .i64 n,.dv a 3 x]) (Y1 a k)
theorem BD {a:Nat}(s:AD):(Bv a s).all E6=true:=by rw[Iq];rfl
theorem HT {a:Nat}(s:AD):(Bv a s).all QX=true:=by rw[Iq];rfl
mutual
theorem Mr {a:Nat}:∀s:AD,IQ (Bv a s)=Ar s
 |.mk o n k=>by
  rw[Iq,Af];simp only[IQ,QA,AD.op,AD.num,AD.kids,SI k]
theorem SI {a:Nat}:∀l:List AD,LL (l.map (Bv a))=l.map Ar
 | []=>rfl
 |e::l=>by simp only[pc,LL,Mr e,SI l]
end
noncomputable def ES (a b:Nat)(f:AU):List AV:=[.dv a 1 (f.params.map eI),.int .i64 f.result,.int .i64 f.body.op,.int .i64 f.body.num,.dv b 3 (f.body.kids.map (Bv b))]
theorem aW {a b:Nat}(f:AU):IQ (ES a b f)=BP f:=by
 simp only[ES,IQ,QA,TJ fa,TJ Mr,BP]
end RC
namespace RC
end RC
