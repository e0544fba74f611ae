import Derived.Test.YtccficmcdkcpnaaGreatGAbsXToAbsZN
import Derived.Test.YtccficmcdkcpnaaGreatAbsQ
import Derived.Lib.SlicesCompact
set_option linter.all false
namespace Go.Abs
open Go
section
variable {P : Program} {k : Nat} {ops ops' : Array Oper} {Q : Exit -> St -> Prop} {N f f' n : Nat} {l l' : Array Bool} {s s' : St} {A : Nat -> Array Bool -> St -> Prop} {L : List (Nat × AV)} {st : List Row} {e : Nat -> AV} {ds : List (Option Tmp)} {t : Tmp} {op : Op} {ty : TypeId} {ps : String} {ed : Array Edge} {v : AV} {o : Oper}
theorem xw (hA :∀f l s,A f l s↔AX P k ops Q N f l s)(h:A f l s')(hw:Wk k s s')(hl:l=l':=by kernel_rfl)(hn:s.n=N:=by exact rfl):AX P k ops Q N f l' s:=Ie hw (Ks hl ((hA _ _ _).1 h)) hn
theorem yw (hA :∀f l s,A f l s↔AY P k ops Q N f l s)(h:A f l s')(hw:Wk k s s')(hl:l=l':=by kernel_rfl)(hn:s.n=N:=by exact rfl):AY P k ops Q N f l' s:=AY.weaken hw (AY.pX hl ((hA _ _ _).1 h)) hn
theorem xt (hA :∀f l s,A f l s↔AX P k ops Q N f l s)(h:A f l ⟨n,AL L,st⟩)(hw:T6 e L=U5 L:=by exact rfl)(hl:l=l':=by kernel_rfl)(hn:n=N:=by exact rfl):AX P k ops Q N f l' ⟨n,e,st⟩:=xw hA h (Ip hw) hl hn
theorem cF (hA :∀f l s,A f l s↔AY P k ops Q N f l s)(h:A f l ⟨n,AL L,st⟩)(hw:T6 e L=U5 L:=by exact rfl)(hl:l=l':=by kernel_rfl)(hn:n=N:=by exact rfl):AY P k ops Q N f l' ⟨n,e,st⟩:=yw hA h (Ip hw) hl hn
theorem P5 (hA :∀f l s,A f l s↔AX P k ops Q N f l s)(h:A f l s')(hw:Wk k s s')(hl:l=l':=by kernel_rfl)(hn:s.n=N:=by exact rfl):AO P k ops' (λe s'=>e=.normal/\AX P k ops Q N f l' s') ds [] s:=AB ⟨rfl,xw hA h hw hl hn⟩
theorem Wg (hA :∀f l s,A f l s↔AY P k ops Q N f l s)(h:A f l s')(hw:Wk k s s')(hl:l=l':=by kernel_rfl)(hn:s.n=N:=by exact rfl):AO P k ops' (λe s'=>e=.normal/\AY P k ops Q N f l' s') ds [] s:=AB ⟨rfl,yw hA h hw hl hn⟩
theorem xd (hA :∀f l s,A f l s↔AX P k ops Q N f l s)(h:A f l ⟨n,AL L,st⟩)(hw:T6 e L=U5 L:=by exact rfl)(hl:l=l':=by kernel_rfl)(hn:n=N:=by exact rfl):AO P k ops' (λe s'=>e=.normal/\AX P k ops Q N f l' s') ds [] ⟨n,e,st⟩:=AB ⟨rfl,xt hA h hw hl hn⟩
theorem yd (hA :∀f l s,A f l s↔AY P k ops Q N f l s)(h:A f l ⟨n,AL L,st⟩)(hw:T6 e L=U5 L:=by exact rfl)(hl:l=l':=by kernel_rfl)(hn:n=N:=by exact rfl):AO P k ops' (λe s'=>e=.normal/\AY P k ops Q N f l' s') ds [] ⟨n,e,st⟩:=AB ⟨rfl,cF hA h hw hl hn⟩
theorem xo (i:Nat)(h:AO P k (ops.extract 0 (i+1)) (λe s'=>e=.normal/\AX P k ops Q N f (l.setIfInBounds i true) s') ((ops.toList.take i).map (·.dst)) [o] s)(ho:ops[i]?=some o:=by exact rfl)(hg:QB o i=true:=by exact rfl)(hd:(ops.toList.all λo=>DG s.n o.dst)=true:=by rfl):KQ P k ops Q N f l s i:=KQ.of ho hg hd h
theorem yo (i:Nat)(h:AO P k (ops.extract 0 (i+1)) (λe s'=>e=.normal/\AY P k ops Q N f (l.setIfInBounds i true) s') ((ops.toList.take i).map (·.dst)) [o] s)(ho:ops[i]?=some o:=by exact rfl)(hg:QB o i=true:=by exact rfl)(hd:(ops.toList.all λo=>DG s.n o.dst)=true:=by rfl):bk P k ops Q N f l s i:=bk.of ho hg hd h
theorem xq {i:Nat}(T:MK P)(hA :∀f l s,A f l s↔AX P k ops Q N f l s)(h:A f l' ⟨n,AL L,st⟩)(ho:ops[i]?=some ⟨some t,op,ty,ps,ed,none⟩:=by exact rfl)(hd:(ops.toList.all λo=>DG n o.dst)=true:=by rfl)
  (hq:qL T ⟨n,e,st⟩ op=some v:=by exact rfl) (hw:T6 (Dr e t v) L=U5 L:=by exact rfl) (hl:l'=l.setIfInBounds i true:=by kernel_rfl) (hn:n=N:=by exact rfl):KQ P k ops Q N f l ⟨n,e,st⟩ i:=KQ.of ho rfl hd (zq T hq (xd hA h hw hl hn))
theorem iJ {i:Nat}(T:MK P)(hA :∀f l s,A f l s↔AY P k ops Q N f l s)(h:A f l' ⟨n,AL L,st⟩)(ho:ops[i]?=some ⟨some t,op,ty,ps,ed,none⟩:=by exact rfl)(hd:(ops.toList.all λo=>DG n o.dst)=true:=by rfl)
  (hq:qL T ⟨n,e,st⟩ op=some v:=by exact rfl) (hw:T6 (Dr e t v) L=U5 L:=by exact rfl) (hl:l'=l.setIfInBounds i true:=by kernel_rfl) (hn:n=N:=by exact rfl):bk P k ops Q N f l ⟨n,e,st⟩ i:=bk.of ho rfl hd (zq T hq (yd hA h hw hl hn))
theorem xa (rs:List Nat)(h:jA P k ops Q N f l s rs)(hr:Region.ready .any ops l=rs:=by kernel_rfl)(vZ:rs≠[]:=by decide)(hn:s.n=N:=by exact rfl):AX P k ops Q N (f+1) l s:=AX.all rs hn hr vZ h
theorem ya (rs:List Nat)(h:ir P k ops Q N f l s rs)(hr:Region.ready .any ops l=rs:=by kernel_rfl)(vZ:rs≠[]:=by decide)(hn:s.n=N:=by exact rfl):AY P k ops Q N (f+1) l s:=AY.all rs hn hr vZ h
theorem rt {Q:Exit->St->Prop}{q:St->Prop}(L:List (Nat×AV))(h:T6 e L=U5 L:=by exact rfl)(hq:Q .ret ⟨n,e,st⟩ =∃a,Wk k ⟨n,e,st⟩ a/\q a:=by exact rfl)(g:q ⟨n,AL L,st⟩:=by exact And.intro rfl rfl):AW P k .ret Q ⟨n,e,st⟩:=Ap (hq▸⟨_,Ip h,g⟩)
theorem rd {Q:Exit->St->Prop}{q:St->Prop}(L:List (Nat×AV))(h:T6 (λt=>Jx [] (e t)) L=U5 L:=by exact rfl)(hq:Q .ret ⟨n,e,st⟩ =∃a,Wk 0 ⟨n,e,st⟩ a/\q a:=by exact rfl)(g:q ⟨n,AL L,[]⟩:=by exact And.intro rfl rfl):AW P 0 .ret Q ⟨n,e,st⟩:=Ap (hq▸⟨_,Bi L h,g⟩)
end
end Go.Abs
namespace RC
open Go Go.Abs
structure Cell where
 count:Int
 tag:Int
 fields:List Int
def eI (n:Int):List AV:=[.int .i64 n]
def Fi (n:Int):List AV:=[.int .u8 n]
def eB (b:Bool):List AV:=[.bool b]
def eS {α:Type}(e:α->List AV)(l:List α):List AV:=[.sl (l.map e)]
def JC (n:Int):Prop:=-9223372036854775808<=n/\n<=9223372036854775807
def U8 (n:Int):Prop:=0<=n/\n<=255
def IJ {α:Type}(YO:α->Prop)(l:List α):Prop:=(∀x∈l,YO x)/\l.length<=9223372036854775807
structure aV (c:Cell):Prop where
 count:JC c.count
 tag:JC c.tag
 N7:IJ JC c.fields
theorem aV.len {c:Cell}(h:aV c):c.fields.length<=9223372036854775807:=h.N7.2
end RC
namespace RC
open Go Go.Abs
structure Ik (S:Type) where
 steps:List S
 result:Int
inductive Step where
 | mk (op num Ed:Int) (args:List Int) (kids:List (Ik Step))
abbrev Block:=Ik Step
@[reducible] def Block.mk (steps:List Step)(result:Int):Block:=⟨steps,result⟩
def Step.op:Step->Int|.mk o _ _ _ _=>o
def Step.num:Step->Int|.mk _ n _ _ _=>n
def Step.Ed:Step->Int|.mk _ _ i _ _=>i
def Step.args:Step->List Int|.mk _ _ _ a _=>a
def Step.kids:Step->List Block|.mk _ _ _ _ k=>k
noncomputable def C8 (s:Step):List AV:=
 Step.rec (motive_1:=λ_=>List AV) (motive_2:=λ_=>List (List AV)) (motive_3:=λ_=>List AV) (motive_4:=λ_=>List (List AV))
  (λo n i a _ ks=>[.int .i64 o,.int .i64 n,.int .i64 i,.sl (a.map eI),.sl ks])
  [] (λ_ _ b bs=>b::bs) (λ_ r ss=>[.sl ss,.int .i64 r]) [] (λ_ _ s ss=>s::ss) s
noncomputable def EZ (b:Block):List AV:=[.sl (b.steps.map C8),.int .i64 b.result]
theorem bg (ks:List Block):
  Step.rec_1 (motive_1:=λ_=>List AV) (motive_2:=λ_=>List (List AV)) (motive_3:=λ_=>List AV) (motive_4:=λ_=>List (List AV))
  (λo n i a _ ks=>[.int .i64 o,.int .i64 n,.int .i64 i,.sl (a.map eI),.sl ks])
  [] (λ_ _ b bs=>b::bs) (λ_ r ss=>[.sl ss,.int .i64 r]) [] (λ_ _ s ss=>s::ss) ks=ks.map EZ:=by
 have key:∀ss:List Step,Step.rec_3 (motive_1:=λ_=>List AV) (motive_2:=λ_=>List (List AV)) (motive_3:=λ_=>List AV) (motive_4:=λ_=>List (List AV))
  (λo n i a _ ks=>[.int .i64 o,.int .i64 n,.int .i64 i,.sl (a.map eI),.sl ks])
  [] (λ_ _ b bs=>b::bs) (λ_ r ss=>[.sl ss,.int .i64 r]) [] (λ_ _ s ss=>s::ss) ss=ss.map C8:=by
  intro ss
  induction ss with
  | nil=>rfl
  | cons s ss ih=>exact rC (C8 s::·) ih
 induction ks with
 | nil=>rfl
 | cons b ks ih=>
  obtain⟨ss,r⟩:=b;exact (rC (·::_) (rC (λx=>[AV.sl x,AV.int .i64 r]) (key ss))).trans (rC (EZ ⟨ss,r⟩::·) ih)
theorem Gn (s:Step):C8 s=[.int .i64 s.op,.int .i64 s.num,.int .i64 s.Ed,.sl (s.args.map eI),.sl (s.kids.map EZ)]:=by
 obtain⟨o,n,i,a,k⟩:=s;exact rC (λx=>[AV.int .i64 o,.int .i64 n,.int .i64 i,.sl (a.map eI),.sl x]) (bg k)
theorem Ab (s:Step):(C8 s).all simple=true:=by rw[Gn];rfl
theorem Lw (s:Step):(C8 s).length=5:=by rw[Gn];rfl
end RC
namespace RC
open Go Go.Abs
structure EK where
 fields:List Int
structure AI where
 from_:Int
 to:Int
 cons:List EK
structure aO where
 op:Int
 dst:Int
 num:Int
 Ed:Int
 args:List Int
 jumps:List Int
structure fZ where
 params:List Int
 CE:List Int
 result:Int
 pG:Int
 code:List aO
structure lU where
 decls:List AI
 procs:List fZ
structure BX where
 params:List Int
 CE:List Int
 result:Int
structure Ah where
 decls:List AI
 funcs:List BX
inductive AG where
 | mk (op num:Int) (kids:List AG)
def AG.op:AG->Int|.mk o _ _=>o
def AG.num:AG->Int|.mk _ n _=>n
def AG.kids:AG->List AG|.mk _ _ k=>k
structure Ar where
 params:List Int
 result:Int
 body:AG
structure AP where
 decls:List AI
 funcs:List Ar
def CP (c:EK):List AV:=[.sl (c.fields.map eI)]
def Ak (d:AI):List AV:=[.int .i64 d.from_,.int .i64 d.to,.sl (d.cons.map CP)]
def Cj (p:BX):List AV:=[.sl (p.params.map eI),.sl (p.CE.map eI),.int .i64 p.result]
def Dl (x:Ah):List AV:=[.sl (x.decls.map Ak),.sl (x.funcs.map Cj)]
noncomputable def BI (s:AG):List AV:=
 AG.rec (motive_1:=λ_=>List AV) (motive_2:=λ_=>List (List AV)) (λo n _ ks=>[.int .i64 o,.int .i64 n,.sl ks]) [] (λ_ _ b bs=>b::bs) s
theorem Z4 (ks:List AG):
  AG.rec_1 (motive_1:=λ_=>List AV) (motive_2:=λ_=>List (List AV)) (λo n _ ks=>[.int .i64 o,.int .i64 n,.sl ks]) [] (λ_ _ b bs=>b::bs) ks=ks.map BI:=by
 induction ks with
 | nil=>rfl
 | cons b ks ih=>exact rC (BI b::·) ih
theorem Aj (s:AG):BI s=[.int .i64 s.op,.int .i64 s.num,.sl (s.kids.map BI)]:=by
 obtain⟨o,n,k⟩:=s;exact rC (λx=>[AV.int .i64 o,.int .i64 n,.sl x]) (Z4 k)
theorem Ag (s:AG):(BI s).all simple=true:=by rw[Aj];rfl
theorem D9 (s:AG):(BI s).length=3:=by rw[Aj];rfl
noncomputable def Bd (f:Ar):List AV:=[.sl (f.params.map eI),.int .i64 f.result,.int .i64 f.body.op,.int .i64 f.body.num,.sl (f.body.kids.map BI)]
noncomputable def oO (x:AP):List AV:=[.sl (x.decls.map Ak),.sl (x.funcs.map Bd)]
structure lS (c:EK):Prop where
 fields:IJ JC c.fields
structure NX (d:AI):Prop where
 from_:JC d.from_
 to:JC d.to
 cons:IJ lS d.cons
end RC
namespace RC
open Go Go.Abs
inductive BF:AG->Prop where
 | mk {e:AG}:JC e.op->JC e.num->e.kids.length<=9223372036854775807->(∀k∈e.kids,BF k)->BF e
theorem BF.op {e:AG}(h:BF e):JC e.op:=by cases h;assumption
theorem BF.num {e:AG}(h:BF e):JC e.num:=by cases h;assumption
theorem BF.kids {e:AG}(h:BF e):∀k∈e.kids,BF k:=by cases h;assumption
theorem mq (a0:List Int)(a1:Int)(a2:AG):Bd ⟨a0,a1,a2⟩=eS eI a0++(eI a1++BI a2):=by rw[Aj];rfl
structure XL (f:Ar):Prop where
 params:IJ JC f.params
 result:JC f.result
 body:BF f.body
structure cB (p:AP):Prop where
 decls:IJ NX p.decls
 funcs:IJ XL p.funcs
structure CQ where
 params:List Int
 CE:List Int
 result:Int
 body:Block
noncomputable def DH (r:CQ):List AV:=[.sl (r.params.map eI),.sl (r.CE.map eI),.int .i64 r.result,.sl (r.body.steps.map C8),.int .i64 r.body.result]
structure Ax where
 decls:List AI
 AU:List CQ
noncomputable def oS (p:Ax):List AV:=[.sl (p.decls.map Ak),.sl (p.AU.map DH)]
end RC
namespace RC
open Go Go.Abs
theorem cX {α:Type}{l:List α}{enc xD:α->List AV}(h :∀x,LI (enc x)=xD x):NQ (l.map enc)=l.map xD:=by
 rw[JD,ra];exact qk λx _=>h x
theorem lQ (n:Int):LI (eI n)=eI n:=rfl
end RC
namespace RC
open Go Go.Abs
end RC
namespace RC
open Go Go.Abs
def IW (a:Nat)(c:EK):List AV:=[.dv a 1 (c.fields.map eI)]
theorem bc {a:Nat}(c:EK):LI (IW a c)=CP c:=by
 simp only[IW,LI,TI,cX lQ,CP]
def F9 (a b:Nat)(d:AI):List AV:=[.int .i64 d.from_,.int .i64 d.to,.dv a 1 (d.cons.map (IW b))]
theorem ax {a b:Nat}(d:AI):LI (F9 a b d)=Ak d:=by
 simp only[F9,LI,TI,cX bc,Ak]
end RC
namespace RC
open Go Go.Abs
end RC
namespace RC
end RC
