import Derived.Test.YtihdgoiebmfapaaGreatGAbsXToAbsZN
import Derived.Test.YtihdgoiebmfapaaGreatAbsQ
import Derived.Lib.SlicesCompact
namespace Go.Abs
open Go
section
variable {P : Program} {k : Nat} {ops yD : Array Oper} {Q : Exit -> St -> Prop} {N f f' n : Nat} {l l' : Array Bool} {s s' : St} {A : Nat -> Array Bool -> St -> Prop} {L : List (Nat × AV)} {st : List Row} {e : Nat -> AV} {ds : List (Option Tmp)} {t : Tmp} {op : Op} {ty : TypeId} {ps : String} {ed : Array Edge} {v : AV} {o : Oper}
theorem xw (hA :∀f l s,A f l s↔AX P k ops Q N f l s)(h:A f l s')(hw:Wk k s s')(hl:l=l':=by kernel_rfl)(hn:s.n=N:=by exact rfl):AX P k ops Q N f l' s:=Au hw (BH hl ((hA _ _ _).1 h)) hn
theorem yw (hA :∀f l s,A f l s↔AY P k ops Q N f l s)(h:A f l s')(hw:Wk k s s')(hl:l=l':=by kernel_rfl)(hn:s.n=N:=by exact rfl):AY P k ops Q N f l' s:=SL hw (X3 hl ((hA _ _ _).1 h)) hn
theorem xt (hA :∀f l s,A f l s↔AX P k ops Q N f l s)(h:A f l ⟨n,Aa L,st⟩)(hw:Tj e L=T7 L:=by exact rfl)(hl:l=l':=by kernel_rfl)(hn:n=N:=by exact rfl):AX P k ops Q N f l' ⟨n,e,st⟩:=xw hA h (AJ hw) hl hn
theorem bx (hA :∀f l s,A f l s↔AY P k ops Q N f l s)(h:A f l ⟨n,Aa L,st⟩)(hw:Tj e L=T7 L:=by exact rfl)(hl:l=l':=by kernel_rfl)(hn:n=N:=by exact rfl):AY P k ops Q N f l' ⟨n,e,st⟩:=yw hA h (AJ hw) hl hn
theorem N3 (hA :∀f l s,A f l s↔AX P k ops Q N f l s)(h:A f l s')(hw:Wk k s s')(hl:l=l':=by kernel_rfl)(hn:s.n=N:=by exact rfl):AO P k yD (λe s'=>e=.normal/\AX P k ops Q N f l' s') ds [] s:=AF ⟨rfl,xw hA h hw hl hn⟩
theorem Zt (hA :∀f l s,A f l s↔AY P k ops Q N f l s)(h:A f l s')(hw:Wk k s s')(hl:l=l':=by kernel_rfl)(hn:s.n=N:=by exact rfl):AO P k yD (λe s'=>e=.normal/\AY P k ops Q N f l' s') ds [] s:=AF ⟨rfl,yw hA h hw hl hn⟩
theorem xd (hA :∀f l s,A f l s↔AX P k ops Q N f l s)(h:A f l ⟨n,Aa L,st⟩)(hw:Tj e L=T7 L:=by exact rfl)(hl:l=l':=by kernel_rfl)(hn:n=N:=by exact rfl):AO P k yD (λe s'=>e=.normal/\AX P k ops Q N f l' s') ds [] ⟨n,e,st⟩:=AF ⟨rfl,xt hA h hw hl hn⟩
theorem yd (hA :∀f l s,A f l s↔AY P k ops Q N f l s)(h:A f l ⟨n,Aa L,st⟩)(hw:Tj e L=T7 L:=by exact rfl)(hl:l=l':=by kernel_rfl)(hn:n=N:=by exact rfl):AO P k yD (λe s'=>e=.normal/\AY P k ops Q N f l' s') ds [] ⟨n,e,st⟩:=AF ⟨rfl,bx hA h hw hl hn⟩
theorem xo (i:Nat)(h:AO P k (ops.extract 0 (i+1)) (λe s'=>e=.normal/\AX P k ops Q N f (l.setIfInBounds i true) s') ((ops.toList.take i).map (·.dst)) [o] s)(ho:ops[i]?=some o:=by exact rfl)(hg:N0 o i=true:=by exact rfl)(hd:(ops.toList.all λo=>DG s.n o.dst)=true:=by rfl):Eh P k ops Q N f l s i:=Eh.of ho hg hd h
theorem yo (i:Nat)(h:AO P k (ops.extract 0 (i+1)) (λe s'=>e=.normal/\AY P k ops Q N f (l.setIfInBounds i true) s') ((ops.toList.take i).map (·.dst)) [o] s)(ho:ops[i]?=some o:=by exact rfl)(hg:N0 o i=true:=by exact rfl)(hd:(ops.toList.all λo=>DG s.n o.dst)=true:=by rfl):aV P k ops Q N f l s i:=aV.of ho hg hd h
theorem xq {i:Nat}(T:Kr P)(hA :∀f l s,A f l s↔AX P k ops Q N f l s)(h:A f l' ⟨n,Aa L,st⟩)(ho:ops[i]?=some ⟨some t,op,ty,ps,ed,none⟩:=by exact rfl)(hd:(ops.toList.all λo=>DG n o.dst)=true:=by rfl)
  (hq:qL T ⟨n,e,st⟩ op=some v:=by exact rfl) (hw:Tj (EC e t v) L=T7 L:=by exact rfl) (hl:l'=l.setIfInBounds i true:=by kernel_rfl) (hn:n=N:=by exact rfl):Eh P k ops Q N f l ⟨n,e,st⟩ i:=Eh.of ho rfl hd (zq T hq (xd hA h hw hl hn))
theorem bc {i:Nat}(T:Kr P)(hA :∀f l s,A f l s↔AY P k ops Q N f l s)(h:A f l' ⟨n,Aa L,st⟩)(ho:ops[i]?=some ⟨some t,op,ty,ps,ed,none⟩:=by exact rfl)(hd:(ops.toList.all λo=>DG n o.dst)=true:=by rfl)
  (hq:qL T ⟨n,e,st⟩ op=some v:=by exact rfl) (hw:Tj (EC e t v) L=T7 L:=by exact rfl) (hl:l'=l.setIfInBounds i true:=by kernel_rfl) (hn:n=N:=by exact rfl):aV P k ops Q N f l ⟨n,e,st⟩ i:=aV.of ho rfl hd (zq T hq (yd hA h hw hl hn))
theorem xa (rs:List Nat)(h:eH P k ops Q N f l s rs)(hr:Region.ready .any ops l=rs:=by kernel_rfl)(rE:rs≠[]:=by decide)(hn:s.n=N:=by exact rfl):AX P k ops Q N (f+1) l s:=CK rs hn hr rE h
theorem ya (rs:List Nat)(h:eV P k ops Q N f l s rs)(hr:Region.ready .any ops l=rs:=by kernel_rfl)(rE:rs≠[]:=by decide)(hn:s.n=N:=by exact rfl):AY P k ops Q N (f+1) l s:=AY.all rs hn hr rE h
theorem rt {Q:Exit->St->Prop}{q:St->Prop}(L:List (Nat×AV))(h:Tj e L=T7 L:=by exact rfl)(hq:Q .ret ⟨n,e,st⟩ =∃a,Wk k ⟨n,e,st⟩ a/\q a:=by exact rfl)(g:q ⟨n,Aa L,st⟩:=by exact And.intro rfl rfl):AW P k .ret Q ⟨n,e,st⟩:=Ao (hq▸⟨_,AJ h,g⟩)
theorem rd {Q:Exit->St->Prop}{q:St->Prop}(L:List (Nat×AV))(h:Tj (λt=>KU [] (e t)) L=T7 L:=by exact rfl)(hq:Q .ret ⟨n,e,st⟩ =∃a,Wk 0 ⟨n,e,st⟩ a/\q a:=by exact rfl)(g:q ⟨n,Aa L,[]⟩:=by exact And.intro rfl rfl):AW P 0 .ret Q ⟨n,e,st⟩:=Ao (hq▸⟨_,Bt L h,g⟩)
end
end Go.Abs
namespace RC
open Go Go.Abs
structure Cell where
 count:Int
 tag:Int
 fields:List Int
def eI (n:Int):List AV:=[.int .i64 n]
def E9 (n:Int):List AV:=[.int .u8 n]
def eB (b:Bool):List AV:=[.bool b]
def eS {α:Type}(e:α->List AV)(l:List α):List AV:=[.sl (l.map e)]
def G2 (n:Int):Prop:=-9223372036854775808<=n/\n<=9223372036854775807
def U8 (n:Int):Prop:=0<=n/\n<=255
def IX {α:Type}(WO:α->Prop)(l:List α):Prop:=(∀x∈l,WO x)/\l.length<=9223372036854775807
structure Yt (c:Cell):Prop where
 count:G2 c.count
 tag:G2 c.tag
 Lc:IX G2 c.fields
theorem Yt.len {c:Cell}(h:Yt c):c.fields.length<=9223372036854775807:=h.Lc.2
end RC
namespace RC
open Go Go.Abs
structure Lk (S:Type) where
 steps:List S
 result:Int
inductive Step where
 | mk (op num ca:Int) (args:List Int) (kids:List (Lk Step))
abbrev Block:=Lk Step
@[reducible] def Block.mk (steps:List Step)(result:Int):Block:=⟨steps,result⟩
def Step.op:Step->Int|.mk o _ _ _ _=>o
def Step.num:Step->Int|.mk _ n _ _ _=>n
def Step.ca:Step->Int|.mk _ _ i _ _=>i
def Step.args:Step->List Int|.mk _ _ _ a _=>a
def Step.kids:Step->List Block|.mk _ _ _ _ k=>k
noncomputable def ZG (s:Step):List AV:=
 Step.rec (motive_1:=λ_=>List AV) (motive_2:=λ_=>List (List AV)) (motive_3:=λ_=>List AV) (motive_4:=λ_=>List (List AV))
  (λo n i a _ ks=>[.int .i64 o,.int .i64 n,.int .i64 i,.sl (a.map eI),.sl ks])
  [] (λ_ _ b bs=>b::bs) (λ_ r ss=>[.sl ss,.int .i64 r]) [] (λ_ _ s ss=>s::ss) s
noncomputable def Yz (b:Block):List AV:=[.sl (b.steps.map ZG),.int .i64 b.result]
theorem aR (ks:List Block):
  Step.rec_1 (motive_1:=λ_=>List AV) (motive_2:=λ_=>List (List AV)) (motive_3:=λ_=>List AV) (motive_4:=λ_=>List (List AV))
  (λo n i a _ ks=>[.int .i64 o,.int .i64 n,.int .i64 i,.sl (a.map eI),.sl ks])
  [] (λ_ _ b bs=>b::bs) (λ_ r ss=>[.sl ss,.int .i64 r]) [] (λ_ _ s ss=>s::ss) ks=ks.map Yz:=by
 have key:∀ss:List Step,Step.rec_3 (motive_1:=λ_=>List AV) (motive_2:=λ_=>List (List AV)) (motive_3:=λ_=>List AV) (motive_4:=λ_=>List (List AV))
  (λo n i a _ ks=>[.int .i64 o,.int .i64 n,.int .i64 i,.sl (a.map eI),.sl ks])
  [] (λ_ _ b bs=>b::bs) (λ_ r ss=>[.sl ss,.int .i64 r]) [] (λ_ _ s ss=>s::ss) ss=ss.map ZG:=by
  intro ss
  induction ss with
  | nil=>rfl
  | cons s ss ih=>exact mc (ZG s::·) ih
 induction ks with
 | nil=>rfl
 | cons b ks ih=>
  obtain⟨ss,r⟩:=b;exact (mc (·::_) (mc (λx=>[AV.sl x,AV.int .i64 r]) (key ss))).trans (mc (Yz ⟨ss,r⟩::·) ih)
theorem kC (s:Step):ZG s=[.int .i64 s.op,.int .i64 s.num,.int .i64 s.ca,.sl (s.args.map eI),.sl (s.kids.map Yz)]:=by
 obtain⟨o,n,i,a,k⟩:=s;exact mc (λx=>[AV.int .i64 o,.int .i64 n,.int .i64 i,.sl (a.map eI),.sl x]) (aR k)
end RC
namespace RC
open Go Go.Abs
structure De where
 fields:List Int
structure AN where
 from_:Int
 to:Int
 cons:List De
structure cg where
 op:Int
 dst:Int
 num:Int
 ca:Int
 args:List Int
 jumps:List Int
structure fD where
 params:List Int
 F6:List Int
 result:Int
 lR:Int
 code:List cg
structure iM where
 decls:List AN
 procs:List fD
structure Bv where
 params:List Int
 F6:List Int
 result:Int
structure BQ where
 decls:List AN
 funcs:List Bv
inductive AE where
 | mk (op num:Int) (kids:List AE)
def AE.op:AE->Int|.mk o _ _=>o
def AE.num:AE->Int|.mk _ n _=>n
def AE.kids:AE->List AE|.mk _ _ k=>k
theorem Hc (s:AE):s=AE.mk s.op s.num s.kids:=by cases s;rfl
structure Ac where
 params:List Int
 result:Int
 body:AE
structure AP where
 decls:List AN
 funcs:List Ac
def CE (c:De):List AV:=[.sl (c.fields.map eI)]
def Ak (d:AN):List AV:=[.int .i64 d.from_,.int .i64 d.to,.sl (d.cons.map CE)]
def CF (p:Bv):List AV:=[.sl (p.params.map eI),.sl (p.F6.map eI),.int .i64 p.result]
def GR (x:BQ):List AV:=[.sl (x.decls.map Ak),.sl (x.funcs.map CF)]
noncomputable def Ar (s:AE):List AV:=
 AE.rec (motive_1:=λ_=>List AV) (motive_2:=λ_=>List (List AV)) (λo n _ ks=>[.int .i64 o,.int .i64 n,.sl ks]) [] (λ_ _ b bs=>b::bs) s
theorem ZF (ks:List AE):
  AE.rec_1 (motive_1:=λ_=>List AV) (motive_2:=λ_=>List (List AV)) (λo n _ ks=>[.int .i64 o,.int .i64 n,.sl ks]) [] (λ_ _ b bs=>b::bs) ks=ks.map Ar:=by
 induction ks with
 | nil=>rfl
 | cons b ks ih=>exact mc (Ar b::·) ih
theorem Ah (s:AE):Ar s=[.int .i64 s.op,.int .i64 s.num,.sl (s.kids.map Ar)]:=by
 obtain⟨o,n,k⟩:=s;exact mc (λx=>[AV.int .i64 o,.int .i64 n,.sl x]) (ZF k)
theorem Ad (s:AE):(Ar s).all simple=true:=by rw[Ah];rfl
theorem DU (s:AE):(Ar s).length=3:=by rw[Ah];rfl
noncomputable def BO (f:Ac):List AV:=[.sl (f.params.map eI),.int .i64 f.result,.int .i64 f.body.op,.int .i64 f.body.num,.sl (f.body.kids.map Ar)]
noncomputable def jy (x:AP):List AV:=[.sl (x.decls.map Ak),.sl (x.funcs.map BO)]
structure ir (c:De):Prop where
 fields:IX G2 c.fields
structure Mp (d:AN):Prop where
 from_:G2 d.from_
 to:G2 d.to
 cons:IX ir d.cons
end RC
namespace RC
open Go Go.Abs
inductive An:AE->Prop where
 | mk {e:AE}:G2 e.op->G2 e.num->e.kids.length<=9223372036854775807->(∀k∈e.kids,An k)->An e
theorem An.op {e:AE}(h:An e):G2 e.op:=by cases h;assumption
theorem An.num {e:AE}(h:An e):G2 e.num:=by cases h;assumption
theorem An.Le {e:AE}(h:An e):e.kids.length<=9223372036854775807:=by cases h;assumption
theorem An.kids {e:AE}(h:An e):∀k∈e.kids,An k:=by cases h;assumption
theorem jF (a0:List Int)(a1:Int)(a2:AE):BO ⟨a0,a1,a2⟩=eS eI a0++(eI a1++Ar a2):=by rw[Ah];rfl
structure We (f:Ac):Prop where
 params:IX G2 f.params
 result:G2 f.result
 body:An f.body
structure Zf (p:AP):Prop where
 decls:IX Mp p.decls
 funcs:IX We p.funcs
structure eD where
 params:List Int
 F6:List Int
 result:Int
 body:Block
structure Ib where
 decls:List AN
 jz:List eD
end RC
namespace RC
open Go Go.Abs
theorem Sl {α:Type}{l:List α}{enc sB:α->List AV}(h :∀x,IJ (enc x)=sB x):Ko (l.map enc)=l.map sB:=by
 rw[IL,nU];exact mH λx _=>h x
theorem dF (n:Int):IJ (eI n)=eI n:=rfl
end RC
namespace RC
open Go Go.Abs
end RC
namespace RC
open Go Go.Abs
def HT (a:Nat)(c:De):List AV:=[.dv a 1 (c.fields.map eI)]
theorem Zo {a:Nat}(c:De):IJ (HT a c)=CE c:=by
 simp only[HT,IJ,PQ,Sl dF,CE]
def BZ (a b:Nat)(d:AN):List AV:=[.int .i64 d.from_,.int .i64 d.to,.dv a 1 (d.cons.map (HT b))]
theorem Yw {a b:Nat}(d:AN):IJ (BZ a b d)=Ak d:=by
 simp only[BZ,IJ,PQ,Sl Zo,Ak]
end RC
namespace RC
open Go Go.Abs
noncomputable def BS (a:Nat)(s:AE):List AV:=
 AE.rec (motive_1:=λ_=>List AV) (motive_2:=λ_=>List (List AV)) (λo n _ ks=>[.int .i64 o,.int .i64 n,.dv a 3 ks]) [] (λ_ _ b bs=>b::bs) s
theorem XR (a:Nat)(ks:List AE):
  AE.rec_1 (motive_1:=λ_=>List AV) (motive_2:=λ_=>List (List AV)) (λo n _ ks=>[.int .i64 o,.int .i64 n,.dv a 3 ks]) [] (λ_ _ b bs=>b::bs) ks=ks.map (BS a):=by
 induction ks with
 | nil=>rfl
 | cons b ks ih=>exact mc (BS a b::·) ih
theorem Cx {a:Nat}(s:AE):BS a s=[.int .i64 s.op,.int .i64 s.num,.dv a 3 (s.kids.map (BS a))]:=by
 obtain⟨o,n,k⟩:=s;exact mc (λx=>[AV.int .i64 o,.int .i64 n,.dv a 3 x]) (XR a k)
theorem Al {a:Nat}(s:AE):(BS a s).all Ef=true:=by rw[Cx];rfl
theorem Ey {a:Nat}(s:AE):(BS a s).all Ph=true:=by rw[Cx];rfl
mutual
theorem MC {a:Nat}:∀s:AE,IJ (BS a s)=Ar s
 | .mk o n k=>by
  rw[Cx,Ah];simp only[IJ,PQ,AE.op,AE.num,AE.kids,Q1 k]
theorem Q1 {a:Nat}:∀l:List AE,Ko (l.map (BS a))=l.map Ar
 | []=>rfl
 | e::l=>by simp only[mF,Ko,MC e,Q1 l]
end
noncomputable def DN (a b:Nat)(f:Ac):List AV:=[.dv a 1 (f.params.map eI),.int .i64 f.result,.int .i64 f.body.op,.int .i64 f.body.num,.dv b 3 (f.body.kids.map (BS b))]
theorem YT {a b:Nat}(f:Ac):IJ (DN a b f)=BO f:=by
 simp only[DN,IJ,PQ,Sl dF,Sl MC,BO]
end RC
namespace RC
end RC
