import Derived.Test.YtihdgoiebmfapaaGreatGAbsXToAbsZN
import Derived.Test.YtihdgoiebmfapaaGreatAbsQ
import Derived.Lib.SlicesCompact
set_option linter.all false
namespace Go.Abs
open Go
section
variable {P : Program} {k : Nat} {ops yD : Array Oper} {Q : Exit -> St -> Prop} {N f f' n : Nat} {l l' : Array Bool} {s s' : St} {A : Nat -> Array Bool -> St -> Prop} {L : List (Nat × AV)} {st : List Row} {e : Nat -> AV} {ds : List (Option Tmp)} {t : Tmp} {op : Op} {ty : TypeId} {ps : String} {ed : Array Edge} {v : AV} {o : Oper}
theorem xw (hA :∀f l s,A f l s↔AX P k ops Q N f l s)(h:A f l s')(hw:Wk k s s')(hl:l=l':=by kernel_rfl)(hn:s.n=N:=by exact rfl):AX P k ops Q N f l' s:=Au hw (BH hl ((hA _ _ _).1 h)) hn
theorem yw (hA :∀f l s,A f l s↔AY P k ops Q N f l s)(h:A f l s')(hw:Wk k s s')(hl:l=l':=by kernel_rfl)(hn:s.n=N:=by exact rfl):AY P k ops Q N f l' s:=Sy hw (YH hl ((hA _ _ _).1 h)) hn
theorem xt (hA :∀f l s,A f l s↔AX P k ops Q N f l s)(h:A f l ⟨n,Aa L,st⟩)(hw:Tp e L=Tg L:=by exact rfl)(hl:l=l':=by kernel_rfl)(hn:n=N:=by exact rfl):AX P k ops Q N f l' ⟨n,e,st⟩:=xw hA h (AJ hw) hl hn
theorem bC (hA :∀f l s,A f l s↔AY P k ops Q N f l s)(h:A f l ⟨n,Aa L,st⟩)(hw:Tp e L=Tg L:=by exact rfl)(hl:l=l':=by kernel_rfl)(hn:n=N:=by exact rfl):AY P k ops Q N f l' ⟨n,e,st⟩:=yw hA h (AJ hw) hl hn
theorem OI (hA :∀f l s,A f l s↔AX P k ops Q N f l s)(h:A f l s')(hw:Wk k s s')(hl:l=l':=by kernel_rfl)(hn:s.n=N:=by exact rfl):AO P k yD (λe s'=>e=.normal/\AX P k ops Q N f l' s') ds [] s:=AF ⟨rfl,xw hA h hw hl hn⟩
theorem ZZ (hA :∀f l s,A f l s↔AY P k ops Q N f l s)(h:A f l s')(hw:Wk k s s')(hl:l=l':=by kernel_rfl)(hn:s.n=N:=by exact rfl):AO P k yD (λe s'=>e=.normal/\AY P k ops Q N f l' s') ds [] s:=AF ⟨rfl,yw hA h hw hl hn⟩
theorem xd (hA :∀f l s,A f l s↔AX P k ops Q N f l s)(h:A f l ⟨n,Aa L,st⟩)(hw:Tp e L=Tg L:=by exact rfl)(hl:l=l':=by kernel_rfl)(hn:n=N:=by exact rfl):AO P k yD (λe s'=>e=.normal/\AX P k ops Q N f l' s') ds [] ⟨n,e,st⟩:=AF ⟨rfl,xt hA h hw hl hn⟩
theorem yd (hA :∀f l s,A f l s↔AY P k ops Q N f l s)(h:A f l ⟨n,Aa L,st⟩)(hw:Tp e L=Tg L:=by exact rfl)(hl:l=l':=by kernel_rfl)(hn:n=N:=by exact rfl):AO P k yD (λe s'=>e=.normal/\AY P k ops Q N f l' s') ds [] ⟨n,e,st⟩:=AF ⟨rfl,bC hA h hw hl hn⟩
theorem xo (i:Nat)(h:AO P k (ops.extract 0 (i+1)) (λe s'=>e=.normal/\AX P k ops Q N f (l.setIfInBounds i true) s') ((ops.toList.take i).map (·.dst)) [o] s)(ho:ops[i]?=some o:=by exact rfl)(hg:Nu o i=true:=by exact rfl)(hd:(ops.toList.all λo=>DH s.n o.dst)=true:=by rfl):En P k ops Q N f l s i:=En.of ho hg hd h
theorem yo (i:Nat)(h:AO P k (ops.extract 0 (i+1)) (λe s'=>e=.normal/\AY P k ops Q N f (l.setIfInBounds i true) s') ((ops.toList.take i).map (·.dst)) [o] s)(ho:ops[i]?=some o:=by exact rfl)(hg:Nu o i=true:=by exact rfl)(hd:(ops.toList.all λo=>DH s.n o.dst)=true:=by rfl):aT P k ops Q N f l s i:=aT.of ho hg hd h
theorem xq {i:Nat}(T:Kr P)(hA :∀f l s,A f l s↔AX P k ops Q N f l s)(h:A f l' ⟨n,Aa L,st⟩)(ho:ops[i]?=some ⟨some t,op,ty,ps,ed,none⟩:=by exact rfl)(hd:(ops.toList.all λo=>DH n o.dst)=true:=by rfl)
  (hq:qL T ⟨n,e,st⟩ op=some v:=by exact rfl) (hw:Tp (EI e t v) L=Tg L:=by exact rfl) (hl:l'=l.setIfInBounds i true:=by kernel_rfl) (hn:n=N:=by exact rfl):En P k ops Q N f l ⟨n,e,st⟩ i:=En.of ho rfl hd (zq T hq (xd hA h hw hl hn))
theorem bU {i:Nat}(T:Kr P)(hA :∀f l s,A f l s↔AY P k ops Q N f l s)(h:A f l' ⟨n,Aa L,st⟩)(ho:ops[i]?=some ⟨some t,op,ty,ps,ed,none⟩:=by exact rfl)(hd:(ops.toList.all λo=>DH n o.dst)=true:=by rfl)
  (hq:qL T ⟨n,e,st⟩ op=some v:=by exact rfl) (hw:Tp (EI e t v) L=Tg L:=by exact rfl) (hl:l'=l.setIfInBounds i true:=by kernel_rfl) (hn:n=N:=by exact rfl):aT P k ops Q N f l ⟨n,e,st⟩ i:=aT.of ho rfl hd (zq T hq (yd hA h hw hl hn))
theorem xa (rs:List Nat)(h:de P k ops Q N f l s rs)(hr:Region.ready .any ops l=rs:=by kernel_rfl)(rE:rs≠[]:=by decide)(hn:s.n=N:=by exact rfl):AX P k ops Q N (f+1) l s:=CK rs hn hr rE h
theorem ya (rs:List Nat)(h:dw P k ops Q N f l s rs)(hr:Region.ready .any ops l=rs:=by kernel_rfl)(rE:rs≠[]:=by decide)(hn:s.n=N:=by exact rfl):AY P k ops Q N (f+1) l s:=AY.all rs hn hr rE h
theorem rt {Q:Exit->St->Prop}{q:St->Prop}(L:List (Nat×AV))(h:Tp e L=Tg L:=by exact rfl)(hq:Q .ret ⟨n,e,st⟩ =∃a,Wk k ⟨n,e,st⟩ a/\q a:=by exact rfl)(g:q ⟨n,Aa L,st⟩:=by exact And.intro rfl rfl):AW P k .ret Q ⟨n,e,st⟩:=Ao (hq▸⟨_,AJ h,g⟩)
theorem rd {Q:Exit->St->Prop}{q:St->Prop}(L:List (Nat×AV))(h:Tp (λt=>KT [] (e t)) L=Tg L:=by exact rfl)(hq:Q .ret ⟨n,e,st⟩ =∃a,Wk 0 ⟨n,e,st⟩ a/\q a:=by exact rfl)(g:q ⟨n,Aa L,[]⟩:=by exact And.intro rfl rfl):AW P 0 .ret Q ⟨n,e,st⟩:=Ao (hq▸⟨_,Bt L h,g⟩)
end
end Go.Abs
namespace RC
open Go Go.Abs
structure Cell where
 count:Int
 tag:Int
 fields:List Int
def eI (n:Int):List AV:=[.int .i64 n]
def E8 (n:Int):List AV:=[.int .u8 n]
def eB (b:Bool):List AV:=[.bool b]
def eS {α:Type}(e:α->List AV)(l:List α):List AV:=[.sl (l.map e)]
def G3 (n:Int):Prop:=-9223372036854775808<=n/\n<=9223372036854775807
def U8 (n:Int):Prop:=0<=n/\n<=255
def IU {α:Type}(Wy:α->Prop)(l:List α):Prop:=(∀x∈l,Wy x)/\l.length<=9223372036854775807
structure Yo (c:Cell):Prop where
 count:G3 c.count
 tag:G3 c.tag
 Lc:IU G3 c.fields
theorem Yo.len {c:Cell}(h:Yo c):c.fields.length<=9223372036854775807:=h.Lc.2
end RC
namespace RC
open Go Go.Abs
structure Ll (S:Type) where
 steps:List S
 result:Int
inductive Step where
 | mk (op num cY:Int) (args:List Int) (kids:List (Ll Step))
abbrev Block:=Ll Step
@[reducible] def Block.mk (steps:List Step)(result:Int):Block:=⟨steps,result⟩
def Step.op:Step->Int|.mk o _ _ _ _=>o
def Step.num:Step->Int|.mk _ n _ _ _=>n
def Step.cY:Step->Int|.mk _ _ i _ _=>i
def Step.args:Step->List Int|.mk _ _ _ a _=>a
def Step.kids:Step->List Block|.mk _ _ _ _ k=>k
noncomputable def Yq (s:Step):List AV:=
 Step.rec (motive_1:=λ_=>List AV) (motive_2:=λ_=>List (List AV)) (motive_3:=λ_=>List AV) (motive_4:=λ_=>List (List AV))
  (λo n i a _ ks=>[.int .i64 o,.int .i64 n,.int .i64 i,.sl (a.map eI),.sl ks])
  [] (λ_ _ b bs=>b::bs) (λ_ r ss=>[.sl ss,.int .i64 r]) [] (λ_ _ s ss=>s::ss) s
noncomputable def Yu (b:Block):List AV:=[.sl (b.steps.map Yq),.int .i64 b.result]
theorem aD (ks:List Block):
  Step.rec_1 (motive_1:=λ_=>List AV) (motive_2:=λ_=>List (List AV)) (motive_3:=λ_=>List AV) (motive_4:=λ_=>List (List AV))
  (λo n i a _ ks=>[.int .i64 o,.int .i64 n,.int .i64 i,.sl (a.map eI),.sl ks])
  [] (λ_ _ b bs=>b::bs) (λ_ r ss=>[.sl ss,.int .i64 r]) [] (λ_ _ s ss=>s::ss) ks=ks.map Yu:=by
 have key:∀ss:List Step,Step.rec_3 (motive_1:=λ_=>List AV) (motive_2:=λ_=>List (List AV)) (motive_3:=λ_=>List AV) (motive_4:=λ_=>List (List AV))
  (λo n i a _ ks=>[.int .i64 o,.int .i64 n,.int .i64 i,.sl (a.map eI),.sl ks])
  [] (λ_ _ b bs=>b::bs) (λ_ r ss=>[.sl ss,.int .i64 r]) [] (λ_ _ s ss=>s::ss) ss=ss.map Yq:=by
  intro ss
  induction ss with
  | nil=>rfl
  | cons s ss ih=>exact mc (Yq s::·) ih
 induction ks with
 | nil=>rfl
 | cons b ks ih=>
  obtain⟨ss,r⟩:=b;exact (mc (·::_) (mc (λx=>[AV.sl x,AV.int .i64 r]) (key ss))).trans (mc (Yu ⟨ss,r⟩::·) ih)
theorem kA (s:Step):Yq s=[.int .i64 s.op,.int .i64 s.num,.int .i64 s.cY,.sl (s.args.map eI),.sl (s.kids.map Yu)]:=by
 obtain⟨o,n,i,a,k⟩:=s;exact mc (λx=>[AV.int .i64 o,.int .i64 n,.int .i64 i,.sl (a.map eI),.sl x]) (aD k)
end RC
namespace RC
open Go Go.Abs
structure De where
 fields:List Int
structure AN where
 from_:Int
 to:Int
 cons:List De
structure cN where
 op:Int
 dst:Int
 num:Int
 cY:Int
 args:List Int
 jumps:List Int
structure fB where
 params:List Int
 F7:List Int
 result:Int
 lR:Int
 code:List cN
structure ie where
 decls:List AN
 procs:List fB
structure Bv where
 params:List Int
 F7:List Int
 result:Int
structure BQ where
 decls:List AN
 funcs:List Bv
inductive AE where
 | mk (op num:Int) (kids:List AE)
def AE.op:AE->Int|.mk o _ _=>o
def AE.num:AE->Int|.mk _ n _=>n
def AE.kids:AE->List AE|.mk _ _ k=>k
theorem HS (s:AE):s=AE.mk s.op s.num s.kids:=by cases s;rfl
structure Ac where
 params:List Int
 result:Int
 body:AE
structure AP where
 decls:List AN
 funcs:List Ac
def CD (c:De):List AV:=[.sl (c.fields.map eI)]
def Ak (d:AN):List AV:=[.int .i64 d.from_,.int .i64 d.to,.sl (d.cons.map CD)]
def CF (p:Bv):List AV:=[.sl (p.params.map eI),.sl (p.F7.map eI),.int .i64 p.result]
def GK (x:BQ):List AV:=[.sl (x.decls.map Ak),.sl (x.funcs.map CF)]
noncomputable def Ar (s:AE):List AV:=
 AE.rec (motive_1:=λ_=>List AV) (motive_2:=λ_=>List (List AV)) (λo n _ ks=>[.int .i64 o,.int .i64 n,.sl ks]) [] (λ_ _ b bs=>b::bs) s
theorem Yv (ks:List AE):
  AE.rec_1 (motive_1:=λ_=>List AV) (motive_2:=λ_=>List (List AV)) (λo n _ ks=>[.int .i64 o,.int .i64 n,.sl ks]) [] (λ_ _ b bs=>b::bs) ks=ks.map Ar:=by
 induction ks with
 | nil=>rfl
 | cons b ks ih=>exact mc (Ar b::·) ih
theorem Ai (s:AE):Ar s=[.int .i64 s.op,.int .i64 s.num,.sl (s.kids.map Ar)]:=by
 obtain⟨o,n,k⟩:=s;exact mc (λx=>[AV.int .i64 o,.int .i64 n,.sl x]) (Yv k)
theorem Ad (s:AE):(Ar s).all simple=true:=by rw[Ai];rfl
theorem DU (s:AE):(Ar s).length=3:=by rw[Ai];rfl
noncomputable def BO (f:Ac):List AV:=[.sl (f.params.map eI),.int .i64 f.result,.int .i64 f.body.op,.int .i64 f.body.num,.sl (f.body.kids.map Ar)]
noncomputable def jQ (x:AP):List AV:=[.sl (x.decls.map Ak),.sl (x.funcs.map BO)]
structure il (c:De):Prop where
 fields:IU G3 c.fields
structure Mp (d:AN):Prop where
 from_:G3 d.from_
 to:G3 d.to
 cons:IU il d.cons
end RC
namespace RC
open Go Go.Abs
inductive An:AE->Prop where
 | mk {e:AE}:G3 e.op->G3 e.num->e.kids.length<=9223372036854775807->(∀k∈e.kids,An k)->An e
theorem An.op {e:AE}(h:An e):G3 e.op:=by cases h;assumption
theorem An.num {e:AE}(h:An e):G3 e.num:=by cases h;assumption
theorem An.LW {e:AE}(h:An e):e.kids.length<=9223372036854775807:=by cases h;assumption
theorem An.kids {e:AE}(h:An e):∀k∈e.kids,An k:=by cases h;assumption
theorem jD (a0:List Int)(a1:Int)(a2:AE):BO ⟨a0,a1,a2⟩=eS eI a0++(eI a1++Ar a2):=by rw[Ai];rfl
structure WA (f:Ac):Prop where
 params:IU G3 f.params
 result:G3 f.result
 body:An f.body
structure ZU (p:AP):Prop where
 decls:IU Mp p.decls
 funcs:IU WA p.funcs
structure dp where
 params:List Int
 F7:List Int
 result:Int
 body:Block
structure Ih where
 decls:List AN
 jz:List dp
end RC
namespace RC
open Go Go.Abs
theorem S8 {α:Type}{l:List α}{enc sB:α->List AV}(h :∀x,Hy (enc x)=sB x):Ke (l.map enc)=l.map sB:=by
 rw[IF,nU];exact mH λx _=>h x
theorem cW (n:Int):Hy (eI n)=eI n:=rfl
end RC
namespace RC
open Go Go.Abs
end RC
namespace RC
open Go Go.Abs
def He (a:Nat)(c:De):List AV:=[.dv a 1 (c.fields.map eI)]
theorem Zw {a:Nat}(c:De):Hy (He a c)=CD c:=by
 simp only[He,Hy,PQ,S8 cW,CD]
def BY (a b:Nat)(d:AN):List AV:=[.int .i64 d.from_,.int .i64 d.to,.dv a 1 (d.cons.map (He b))]
theorem Yh {a b:Nat}(d:AN):Hy (BY a b d)=Ak d:=by
 simp only[BY,Hy,PQ,S8 Zw,Ak]
end RC
namespace RC
open Go Go.Abs
noncomputable def BS (a:Nat)(s:AE):List AV:=
 AE.rec (motive_1:=λ_=>List AV) (motive_2:=λ_=>List (List AV)) (λo n _ ks=>[.int .i64 o,.int .i64 n,.dv a 3 ks]) [] (λ_ _ b bs=>b::bs) s
theorem W6 (a:Nat)(ks:List AE):
  AE.rec_1 (motive_1:=λ_=>List AV) (motive_2:=λ_=>List (List AV)) (λo n _ ks=>[.int .i64 o,.int .i64 n,.dv a 3 ks]) [] (λ_ _ b bs=>b::bs) ks=ks.map (BS a):=by
 induction ks with
 | nil=>rfl
 | cons b ks ih=>exact mc (BS a b::·) ih
theorem Cx {a:Nat}(s:AE):BS a s=[.int .i64 s.op,.int .i64 s.num,.dv a 3 (s.kids.map (BS a))]:=by
 obtain⟨o,n,k⟩:=s;exact mc (λx=>[AV.int .i64 o,.int .i64 n,.dv a 3 x]) (W6 a k)
theorem Al {a:Nat}(s:AE):(BS a s).all Ee=true:=by rw[Cx];rfl
theorem Ey {a:Nat}(s:AE):(BS a s).all QD=true:=by rw[Cx];rfl
mutual
theorem MK {a:Nat}:∀s:AE,Hy (BS a s)=Ar s
 | .mk o n k=>by
  rw[Cx,Ai];simp only[Hy,PQ,AE.op,AE.num,AE.kids,Q8 k]
theorem Q8 {a:Nat}:∀l:List AE,Ke (l.map (BS a))=l.map Ar
 | []=>rfl
 | e::l=>by simp only[mF,Ke,MK e,Q8 l]
end
noncomputable def DM (a b:Nat)(f:Ac):List AV:=[.dv a 1 (f.params.map eI),.int .i64 f.result,.int .i64 f.body.op,.int .i64 f.body.num,.dv b 3 (f.body.kids.map (BS b))]
theorem Y6 {a b:Nat}(f:Ac):Hy (DM a b f)=BO f:=by
 simp only[DM,Hy,PQ,S8 cW,S8 MK,BO]
end RC
namespace RC
end RC
