import Derived.Test.YtccficmcdkcpnaaGreatGAbsXToAbsZN
import Derived.Test.YtccficmcdkcpnaaGreatAbsQ
import Derived.Lib.SlicesCompact
set_option linter.all false
namespace Go.Abs
open Go
section
variable {P : Program} {k : Nat} {ops xg : Array Oper} {Q : Exit -> St -> Prop} {N f f' n : Nat} {l l' : Array Bool} {s s' : St} {A : Nat -> Array Bool -> St -> Prop} {L : List (Nat × AV)} {st : List Row} {e : Nat -> AV} {ds : List (Option Tmp)} {t : Tmp} {op : Op} {ty : TypeId} {ps : String} {ed : Array Edge} {v : AV} {o : Oper}
theorem xw (hA :∀f l s,A f l s↔AX P k ops Q N f l s)(h:A f l s')(hw:Wk k s s')(hl:l=l':=by kernel_rfl)(hn:s.n=N:=by exact rfl):AX P k ops Q N f l' s:=AX.weaken hw (Wl hl ((hA _ _ _).1 h)) hn
theorem yw (hA :∀f l s,A f l s↔AY P k ops Q N f l s)(h:A f l s')(hw:Wk k s s')(hl:l=l':=by kernel_rfl)(hn:s.n=N:=by exact rfl):AY P k ops Q N f l' s:=AY.weaken hw (AY.mD hl ((hA _ _ _).1 h)) hn
theorem xt (hA :∀f l s,A f l s↔AX P k ops Q N f l s)(h:A f l ⟨n,AM L,st⟩)(hw:Su e L=Sx L:=by exact rfl)(hl:l=l':=by kernel_rfl)(hn:n=N:=by exact rfl):AX P k ops Q N f l' ⟨n,e,st⟩:=xw hA h (AI hw) hl hn
theorem ld (hA :∀f l s,A f l s↔AY P k ops Q N f l s)(h:A f l ⟨n,AM L,st⟩)(hw:Su e L=Sx L:=by exact rfl)(hl:l=l':=by kernel_rfl)(hn:n=N:=by exact rfl):AY P k ops Q N f l' ⟨n,e,st⟩:=yw hA h (AI hw) hl hn
theorem jC (hA :∀f l s,A f l s↔AX P k ops Q N f l s)(h:A f l s')(hw:Wk k s s')(hl:l=l':=by kernel_rfl)(hn:s.n=N:=by exact rfl):AO P k xg (λe s'=>e=.normal/\AX P k ops Q N f l' s') ds [] s:=AE ⟨rfl,xw hA h hw hl hn⟩
theorem lY (hA :∀f l s,A f l s↔AY P k ops Q N f l s)(h:A f l s')(hw:Wk k s s')(hl:l=l':=by kernel_rfl)(hn:s.n=N:=by exact rfl):AO P k xg (λe s'=>e=.normal/\AY P k ops Q N f l' s') ds [] s:=AE ⟨rfl,yw hA h hw hl hn⟩
theorem xd (hA :∀f l s,A f l s↔AX P k ops Q N f l s)(h:A f l ⟨n,AM L,st⟩)(hw:Su e L=Sx L:=by exact rfl)(hl:l=l':=by kernel_rfl)(hn:n=N:=by exact rfl):AO P k xg (λe s'=>e=.normal/\AX P k ops Q N f l' s') ds [] ⟨n,e,st⟩:=AE ⟨rfl,xt hA h hw hl hn⟩
theorem yd (hA :∀f l s,A f l s↔AY P k ops Q N f l s)(h:A f l ⟨n,AM L,st⟩)(hw:Su e L=Sx L:=by exact rfl)(hl:l=l':=by kernel_rfl)(hn:n=N:=by exact rfl):AO P k xg (λe s'=>e=.normal/\AY P k ops Q N f l' s') ds [] ⟨n,e,st⟩:=AE ⟨rfl,ld hA h hw hl hn⟩
theorem xo (i:Nat)(h:AO P k (ops.extract 0 (i+1)) (λe s'=>e=.normal/\AX P k ops Q N f (l.setIfInBounds i true) s') ((ops.toList.take i).map (·.dst)) [o] s)(ho:ops[i]?=some o:=by exact rfl)(hg:NT o i=true:=by exact rfl)(hd:(ops.toList.all λo=>Ce s.n o.dst)=true:=by rfl):IS P k ops Q N f l s i:=IS.of ho hg hd h
theorem yo (i:Nat)(h:AO P k (ops.extract 0 (i+1)) (λe s'=>e=.normal/\AY P k ops Q N f (l.setIfInBounds i true) s') ((ops.toList.take i).map (·.dst)) [o] s)(ho:ops[i]?=some o:=by exact rfl)(hg:NT o i=true:=by exact rfl)(hd:(ops.toList.all λo=>Ce s.n o.dst)=true:=by rfl):Z6 P k ops Q N f l s i:=Z6.of ho hg hd h
theorem xq {i:Nat}(T:KV P)(hA :∀f l s,A f l s↔AX P k ops Q N f l s)(h:A f l' ⟨n,AM L,st⟩)(ho:ops[i]?=some ⟨some t,op,ty,ps,ed,none⟩:=by exact rfl)(hd:(ops.toList.all λo=>Ce n o.dst)=true:=by rfl)
  (hq:qL T ⟨n,e,st⟩ op=some v:=by exact rfl) (hw:Su (Ew e t v) L=Sx L:=by exact rfl) (hl:l'=l.setIfInBounds i true:=by kernel_rfl) (hn:n=N:=by exact rfl):IS P k ops Q N f l ⟨n,e,st⟩ i:=IS.of ho rfl hd (zq T hq (xd hA h hw hl hn))
theorem iF {i:Nat}(T:KV P)(hA :∀f l s,A f l s↔AY P k ops Q N f l s)(h:A f l' ⟨n,AM L,st⟩)(ho:ops[i]?=some ⟨some t,op,ty,ps,ed,none⟩:=by exact rfl)(hd:(ops.toList.all λo=>Ce n o.dst)=true:=by rfl)
  (hq:qL T ⟨n,e,st⟩ op=some v:=by exact rfl) (hw:Su (Ew e t v) L=Sx L:=by exact rfl) (hl:l'=l.setIfInBounds i true:=by kernel_rfl) (hn:n=N:=by exact rfl):Z6 P k ops Q N f l ⟨n,e,st⟩ i:=Z6.of ho rfl hd (zq T hq (yd hA h hw hl hn))
theorem xa (rs:List Nat)(h:de P k ops Q N f l s rs)(hr:Region.ready .any ops l=rs:=by kernel_rfl)(sB:rs≠[]:=by decide)(hn:s.n=N:=by exact rfl):AX P k ops Q N (f+1) l s:=AX.all rs hn hr sB h
theorem ya (rs:List Nat)(h:eF P k ops Q N f l s rs)(hr:Region.ready .any ops l=rs:=by kernel_rfl)(sB:rs≠[]:=by decide)(hn:s.n=N:=by exact rfl):AY P k ops Q N (f+1) l s:=AY.all rs hn hr sB h
theorem rt {Q:Exit->St->Prop}{q:St->Prop}(L:List (Nat×AV))(h:Su e L=Sx L:=by exact rfl)(hq:Q .ret ⟨n,e,st⟩ =∃a,Wk k ⟨n,e,st⟩ a/\q a:=by exact rfl)(g:q ⟨n,AM L,st⟩:=by exact And.intro rfl rfl):AW P k .ret Q ⟨n,e,st⟩:=BB (hq▸⟨_,AI h,g⟩)
theorem rd {Q:Exit->St->Prop}{q:St->Prop}(L:List (Nat×AV))(h:Su (λt=>Jg [] (e t)) L=Sx L:=by exact rfl)(hq:Q .ret ⟨n,e,st⟩ =∃a,Wk 0 ⟨n,e,st⟩ a/\q a:=by exact rfl)(g:q ⟨n,AM L,[]⟩:=by exact And.intro rfl rfl):AW P 0 .ret Q ⟨n,e,st⟩:=BB (hq▸⟨_,BD L h,g⟩)
end
end Go.Abs
namespace RC
open Go Go.Abs
structure Cell where
 count:Int
 tag:Int
 fields:List Int
def eI (n:Int):List AV:=[.int .i64 n]
def aa (n:Int):List AV:=[.int .u8 n]
def eB (b:Bool):List AV:=[.bool b]
def eS {α:Type}(e:α->List AV)(l:List α):List AV:=[.sl (l.map e)]
def Ji (n:Int):Prop:=-9223372036854775808<=n/\n<=9223372036854775807
def U8 (n:Int):Prop:=0<=n/\n<=255
def Ep {α:Type}(tU:α->Prop)(l:List α):Prop:=(∀x∈l,tU x)/\l.length<=9223372036854775807
structure YG (c:Cell):Prop where
 count:Ji c.count
 tag:Ji c.tag
 NV:Ep Ji c.fields
theorem YG.len {c:Cell}(h:YG c):c.fields.length<=9223372036854775807:=h.NV.2
end RC
namespace RC
open Go Go.Abs
structure ET (S:Type) where
 steps:List S
 result:Int
inductive Step where
 | mk (op num A5:Int) (args:List Int) (kids:List (ET Step))
abbrev Block:=ET Step
@[reducible] def Block.mk (steps:List Step)(result:Int):Block:=⟨steps,result⟩
def Step.op:Step->Int|.mk o _ _ _ _=>o
def Step.num:Step->Int|.mk _ n _ _ _=>n
def Step.A5:Step->Int|.mk _ _ i _ _=>i
def Step.args:Step->List Int|.mk _ _ _ a _=>a
def Step.kids:Step->List Block|.mk _ _ _ _ k=>k
theorem Mb (s:Step):s=Step.mk s.op s.num s.A5 s.args s.kids:=by cases s;rfl
noncomputable def Bk (s:Step):List AV:=
 Step.rec (motive_1:=λ_=>List AV) (motive_2:=λ_=>List (List AV)) (motive_3:=λ_=>List AV) (motive_4:=λ_=>List (List AV))
  (λo n i a _ ks=>[.int .i64 o,.int .i64 n,.int .i64 i,.sl (a.map eI),.sl ks])
  [] (λ_ _ b bs=>b::bs) (λ_ r ss=>[.sl ss,.int .i64 r]) [] (λ_ _ s ss=>s::ss) s
noncomputable def Bg (b:Block):List AV:=[.sl (b.steps.map Bk),.int .i64 b.result]
theorem Ym (ks:List Block):
  Step.rec_1 (motive_1:=λ_=>List AV) (motive_2:=λ_=>List (List AV)) (motive_3:=λ_=>List AV) (motive_4:=λ_=>List (List AV))
  (λo n i a _ ks=>[.int .i64 o,.int .i64 n,.int .i64 i,.sl (a.map eI),.sl ks])
  [] (λ_ _ b bs=>b::bs) (λ_ r ss=>[.sl ss,.int .i64 r]) [] (λ_ _ s ss=>s::ss) ks=ks.map Bg:=by
 have key:∀ss:List Step,Step.rec_3 (motive_1:=λ_=>List AV) (motive_2:=λ_=>List (List AV)) (motive_3:=λ_=>List AV) (motive_4:=λ_=>List (List AV))
  (λo n i a _ ks=>[.int .i64 o,.int .i64 n,.int .i64 i,.sl (a.map eI),.sl ks])
  [] (λ_ _ b bs=>b::bs) (λ_ r ss=>[.sl ss,.int .i64 r]) [] (λ_ _ s ss=>s::ss) ss=ss.map Bk:=by
  intro ss
  induction ss with
  | nil=>rfl
  | cons s ss ih=>exact nO (Bk s::·) ih
 induction ks with
 | nil=>rfl
 | cons b ks ih=>
  obtain⟨ss,r⟩:=b;exact (nO (·::_) (nO (λx=>[AV.sl x,AV.int .i64 r]) (key ss))).trans (nO (Bg ⟨ss,r⟩::·) ih)
theorem Be (s:Step):Bk s=[.int .i64 s.op,.int .i64 s.num,.int .i64 s.A5,.sl (s.args.map eI),.sl (s.kids.map Bg)]:=by
 obtain⟨o,n,i,a,k⟩:=s;exact nO (λx=>[AV.int .i64 o,.int .i64 n,.int .i64 i,.sl (a.map eI),.sl x]) (Ym k)
theorem Mi (s:Step):(Bk s).all simple=true:=by rw[Be];rfl
theorem bU (s:Step):(Bk s).length=5:=by rw[Be];rfl
end RC
namespace RC
open Go Go.Abs
structure BN where
 fields:List Int
structure AR where
 from_:Int
 to:Int
 cons:List BN
structure Ye where
 op:Int
 dst:Int
 num:Int
 A5:Int
 args:List Int
 jumps:List Int
structure ak where
 params:List Int
 Ao:List Int
 result:Int
 lQ:Int
 code:List Ye
structure iN where
 decls:List AR
 procs:List ak
structure BM where
 params:List Int
 Ao:List Int
 result:Int
structure Aq where
 decls:List AR
 funcs:List BM
inductive Da where
 | mk (op num:Int) (kids:List Da)
def Da.op:Da->Int|.mk o _ _=>o
def Da.num:Da->Int|.mk _ n _=>n
def Da.kids:Da->List Da|.mk _ _ k=>k
structure HZ where
 params:List Int
 result:Int
 body:Da
structure Dg where
 decls:List AR
 funcs:List HZ
def BR (c:BN):List AV:=[.sl (c.fields.map eI)]
def Ak (d:AR):List AV:=[.int .i64 d.from_,.int .i64 d.to,.sl (d.cons.map BR)]
def Du (p:BM):List AV:=[.sl (p.params.map eI),.sl (p.Ao.map eI),.int .i64 p.result]
def FE (x:Aq):List AV:=[.sl (x.decls.map Ak),.sl (x.funcs.map Du)]
noncomputable def bq (s:Da):List AV:=
 Da.rec (motive_1:=λ_=>List AV) (motive_2:=λ_=>List (List AV)) (λo n _ ks=>[.int .i64 o,.int .i64 n,.sl ks]) [] (λ_ _ b bs=>b::bs) s
noncomputable def Hd (f:HZ):List AV:=[.sl (f.params.map eI),.int .i64 f.result,.int .i64 f.body.op,.int .i64 f.body.num,.sl (f.body.kids.map bq)]
structure Sp (c:BN):Prop where
 fields:Ep Ji c.fields
structure PE (d:AR):Prop where
 from_:Ji d.from_
 to:Ji d.to
 cons:Ep Sp d.cons
end RC
namespace RC
open Go Go.Abs
structure AP where
 params:List Int
 Ao:List Int
 result:Int
 body:Block
noncomputable def Ah (r:AP):List AV:=[.sl (r.params.map eI),.sl (r.Ao.map eI),.int .i64 r.result,.sl (r.body.steps.map Bk),.int .i64 r.body.result]
structure AL where
 decls:List AR
 AB:List AP
noncomputable def XS (p:AL):List AV:=[.sl (p.decls.map Ak),.sl (p.AB.map Ah)]
end RC
namespace RC
open Go Go.Abs
theorem PU {α:Type}{l:List α}{enc sU:α->List AV}(h :∀x,GB (enc x)=sU x):Ia (l.map enc)=l.map sU:=by
 rw[Gp,oC];exact nD λx _=>h x
theorem YS (n:Int):GB (eI n)=eI n:=rfl
end RC
namespace RC
open Go Go.Abs
end RC
namespace RC
open Go Go.Abs
def CT (a:Nat)(c:BN):List AV:=[.dv a 1 (c.fields.map eI)]
theorem Yi {a:Nat}(c:BN):GB (CT a c)=BR c:=by
 simp only[CT,GB,NA,PU YS,BR]
def Av (a b:Nat)(d:AR):List AV:=[.int .i64 d.from_,.int .i64 d.to,.dv a 1 (d.cons.map (CT b))]
theorem Fc {a b:Nat}(d:AR):GB (Av a b d)=Ak d:=by
 simp only[Av,GB,NA,PU Yi,Ak]
end RC
namespace RC
open Go Go.Abs
noncomputable def Bb (x y z:Nat)(s:Step):List AV:=
 Step.rec (motive_1:=λ_=>List AV) (motive_2:=λ_=>List (List AV)) (motive_3:=λ_=>List AV) (motive_4:=λ_=>List (List AV))
  (λo n i a _ ks=>[.int .i64 o,.int .i64 n,.int .i64 i,.dv x 1 (a.map eI),.dv y 2 ks])
  [] (λ_ _ b bs=>b::bs) (λ_ r ss=>[.dv z 5 ss,.int .i64 r]) [] (λ_ _ s ss=>s::ss) s
noncomputable def DE (x y z:Nat)(b:Block):List AV:=[.dv z 5 (b.steps.map (Bb x y z)),.int .i64 b.result]
theorem Yf (x y z:Nat)(ks:List Block):
  Step.rec_1 (motive_1:=λ_=>List AV) (motive_2:=λ_=>List (List AV)) (motive_3:=λ_=>List AV) (motive_4:=λ_=>List (List AV))
  (λo n i a _ ks=>[.int .i64 o,.int .i64 n,.int .i64 i,.dv x 1 (a.map eI),.dv y 2 ks])
  [] (λ_ _ b bs=>b::bs) (λ_ r ss=>[.dv z 5 ss,.int .i64 r]) [] (λ_ _ s ss=>s::ss) ks=ks.map (DE x y z):=by
 have key:∀ss:List Step,Step.rec_3 (motive_1:=λ_=>List AV) (motive_2:=λ_=>List (List AV)) (motive_3:=λ_=>List AV) (motive_4:=λ_=>List (List AV))
  (λo n i a _ ks=>[.int .i64 o,.int .i64 n,.int .i64 i,.dv x 1 (a.map eI),.dv y 2 ks])
  [] (λ_ _ b bs=>b::bs) (λ_ r ss=>[.dv z 5 ss,.int .i64 r]) [] (λ_ _ s ss=>s::ss) ss=ss.map (Bb x y z):=by
  intro ss
  induction ss with
  | nil=>rfl
  | cons s ss ih=>exact nO (Bb x y z s::·) ih
 induction ks with
 | nil=>rfl
 | cons b ks ih=>
  obtain⟨ss,r⟩:=b;exact (nO (·::_) (nO (λx=>[AV.dv z 5 x,AV.int .i64 r]) (key ss))).trans (nO (DE x y z ⟨ss,r⟩::·) ih)
theorem D8 {x y z:Nat}(s:Step):Bb x y z s=[.int .i64 s.op,.int .i64 s.num,.int .i64 s.A5,.dv x 1 (s.args.map eI),.dv y 2 (s.kids.map (DE x y z))]:=by
 obtain⟨o,n,i,a,k⟩:=s;exact nO (λq=>[AV.int .i64 o,.int .i64 n,.int .i64 i,.dv x 1 (a.map eI),.dv y 2 q]) (Yf x y z k)
theorem BS {x y z:Nat}(s:Step):(Bb x y z s).all Dd=true:=by rw[D8];rfl
theorem It {x y z:Nat}(s:Step):(Bb x y z s).all PJ=true:=by rw[D8];rfl
theorem Zc {x y z:Nat}(s:Step):(Bb x y z s).length=5:=by rw[D8];rfl
mutual
theorem Tq {x y z:Nat}:∀s:Step,GB (Bb x y z s)=Bk s
 | .mk o n i a k=>by
  rw[D8,Be];simp only[GB,NA,Step.op,Step.num,Step.A5,Step.args,Step.kids,PU YS,Qu k]
theorem Qu {x y z:Nat}:∀l:List (ET Step),Ia (l.map (DE x y z))=l.map Bg
 | []=>rfl
 | b::l=>by simp only[mz,Ia,Xf b,Qu l]
theorem Xf {x y z:Nat}:∀b:ET Step,GB (DE x y z b)=Bg b
 | ⟨ss,r⟩=>by
  show GB [.dv z 5 (ss.map (Bb x y z)),.int .i64 r]=[.sl (ss.map Bk),.int .i64 r]
  simp only[GB,NA,Ru ss]
theorem Ru {x y z:Nat}:∀l:List Step,Ia (l.map (Bb x y z))=l.map Bk
 | []=>rfl
 | s::l=>by simp only[mz,Ia,Tq s,Ru l]
end
noncomputable def Am (a b x y z:Nat)(r:AP):List AV:=[.dv a 1 (r.params.map eI),.dv b 1 (r.Ao.map eI),.int .i64 r.result,.dv z 5 (r.body.steps.map (Bb x y z)),.int .i64 r.body.result]
theorem EG {a b x y z:Nat}(r:AP):GB (Am a b x y z r)=Ah r:=by
 simp only[Am,GB,NA,PU YS,PU Tq,Ah]
end RC
namespace RC
end RC
