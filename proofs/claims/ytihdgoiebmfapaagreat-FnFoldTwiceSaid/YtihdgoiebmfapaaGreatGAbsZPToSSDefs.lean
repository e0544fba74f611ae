import Derived.Test.YtihdgoiebmfapaaGreatGAbsXToAbsZN
import Derived.Test.YtihdgoiebmfapaaGreatAbsQ
import Derived.Test.YtihdgoiebmfapaaGreatAbsV
import Derived.Test.YtihdgoiebmfapaaGreatAbsW
import Derived.Lib.SlicesCompact
namespace Go.Abs
open Go
section
variable {P : Program} {k : Nat} {ops ops' : Array Oper} {Q : Exit -> St -> Prop} {N f f' n : Nat} {l l' : Array Bool} {s s' : St} {A : Nat -> Array Bool -> St -> Prop} {L : List (Nat × AV)} {st : List Row} {e : Nat -> AV} {ds : List (Option Tmp)} {t : Tmp} {op : Op} {ty : TypeId} {ps : String} {ed : Array Edge} {v : AV} {o : Oper}
theorem xw (hA :∀f l s,A f l s↔AX P k ops Q N f l s)(h:A f l s')(hw:Wk k s s')(hl:l=l':=by kernel_rfl)(hn:s.n=N:=by exact rfl):AX P k ops Q N f l' s:=As hw (BG hl ((hA _ _ _).1 h)) hn
theorem yw (hA :∀f l s,A f l s↔AY P k ops Q N f l s)(h:A f l s')(hw:Wk k s s')(hl:l=l':=by kernel_rfl)(hn:s.n=N:=by exact rfl):AY P k ops Q N f l' s:=Rs hw (Wr hl ((hA _ _ _).1 h)) hn
theorem xt (hA :∀f l s,A f l s↔AX P k ops Q N f l s)(h:A f l ⟨n,Aa L,st⟩)(hw:TP e L=Ss L:=by exact rfl)(hl:l=l':=by kernel_rfl)(hn:n=N:=by exact rfl):AX P k ops Q N f l' ⟨n,e,st⟩:=xw hA h (AJ hw) hl hn
theorem Zu (hA :∀f l s,A f l s↔AY P k ops Q N f l s)(h:A f l ⟨n,Aa L,st⟩)(hw:TP e L=Ss L:=by exact rfl)(hl:l=l':=by kernel_rfl)(hn:n=N:=by exact rfl):AY P k ops Q N f l' ⟨n,e,st⟩:=yw hA h (AJ hw) hl hn
theorem NV (hA :∀f l s,A f l s↔AX P k ops Q N f l s)(h:A f l s')(hw:Wk k s s')(hl:l=l':=by kernel_rfl)(hn:s.n=N:=by exact rfl):AO P k ops' (λe s'=>e=.normal/\AX P k ops Q N f l' s') ds [] s:=AF ⟨rfl,xw hA h hw hl hn⟩
theorem ZU (hA :∀f l s,A f l s↔AY P k ops Q N f l s)(h:A f l s')(hw:Wk k s s')(hl:l=l':=by kernel_rfl)(hn:s.n=N:=by exact rfl):AO P k ops' (λe s'=>e=.normal/\AY P k ops Q N f l' s') ds [] s:=AF ⟨rfl,yw hA h hw hl hn⟩
theorem xd (hA :∀f l s,A f l s↔AX P k ops Q N f l s)(h:A f l ⟨n,Aa L,st⟩)(hw:TP e L=Ss L:=by exact rfl)(hl:l=l':=by kernel_rfl)(hn:n=N:=by exact rfl):AO P k ops' (λe s'=>e=.normal/\AX P k ops Q N f l' s') ds [] ⟨n,e,st⟩:=AF ⟨rfl,xt hA h hw hl hn⟩
theorem yd (hA :∀f l s,A f l s↔AY P k ops Q N f l s)(h:A f l ⟨n,Aa L,st⟩)(hw:TP e L=Ss L:=by exact rfl)(hl:l=l':=by kernel_rfl)(hn:n=N:=by exact rfl):AO P k ops' (λe s'=>e=.normal/\AY P k ops Q N f l' s') ds [] ⟨n,e,st⟩:=AF ⟨rfl,Zu hA h hw hl hn⟩
theorem xo (i:Nat)(h:AO P k (ops.extract 0 (i+1)) (λe s'=>e=.normal/\AX P k ops Q N f (l.setIfInBounds i true) s') ((ops.toList.take i).map (·.dst)) [o] s)(ho:ops[i]?=some o:=by exact rfl)(hg:Ni o i=true:=by exact rfl)(hd:(ops.toList.all λo=>DC s.n o.dst)=true:=by rfl):Ea P k ops Q N f l s i:=Ea.of ho hg hd h
theorem yo (i:Nat)(h:AO P k (ops.extract 0 (i+1)) (λe s'=>e=.normal/\AY P k ops Q N f (l.setIfInBounds i true) s') ((ops.toList.take i).map (·.dst)) [o] s)(ho:ops[i]?=some o:=by exact rfl)(hg:Ni o i=true:=by exact rfl)(hd:(ops.toList.all λo=>DC s.n o.dst)=true:=by rfl):Y1 P k ops Q N f l s i:=Y1.of ho hg hd h
theorem xq {i:Nat}(T:Ka P)(hA :∀f l s,A f l s↔AX P k ops Q N f l s)(h:A f l' ⟨n,Aa L,st⟩)(ho:ops[i]?=some ⟨some t,op,ty,ps,ed,none⟩:=by exact rfl)(hd:(ops.toList.all λo=>DC n o.dst)=true:=by rfl)
  (hq:qL T ⟨n,e,st⟩ op=some v:=by exact rfl) (hw:TP (ED e t v) L=Ss L:=by exact rfl) (hl:l'=l.setIfInBounds i true:=by kernel_rfl) (hn:n=N:=by exact rfl):Ea P k ops Q N f l ⟨n,e,st⟩ i:=Ea.of ho rfl hd (zq T hq (xd hA h hw hl hn))
theorem Zo {i:Nat}(T:Ka P)(hA :∀f l s,A f l s↔AY P k ops Q N f l s)(h:A f l' ⟨n,Aa L,st⟩)(ho:ops[i]?=some ⟨some t,op,ty,ps,ed,none⟩:=by exact rfl)(hd:(ops.toList.all λo=>DC n o.dst)=true:=by rfl)
  (hq:qL T ⟨n,e,st⟩ op=some v:=by exact rfl) (hw:TP (ED e t v) L=Ss L:=by exact rfl) (hl:l'=l.setIfInBounds i true:=by kernel_rfl) (hn:n=N:=by exact rfl):Y1 P k ops Q N f l ⟨n,e,st⟩ i:=Y1.of ho rfl hd (zq T hq (yd hA h hw hl hn))
theorem xa (rs:List Nat)(h:cO P k ops Q N f l s rs)(hr:Region.ready .any ops l=rs:=by kernel_rfl)(hne:rs≠[]:=by decide)(hn:s.n=N:=by exact rfl):AX P k ops Q N (f+1) l s:=CJ rs hn hr hne h
theorem ya (rs:List Nat)(h:cK P k ops Q N f l s rs)(hr:Region.ready .any ops l=rs:=by kernel_rfl)(hne:rs≠[]:=by decide)(hn:s.n=N:=by exact rfl):AY P k ops Q N (f+1) l s:=AY.all rs hn hr hne h
theorem rt {Q:Exit->St->Prop}{q:St->Prop}(L:List (Nat×AV))(h:TP e L=Ss L:=by exact rfl)(hq:Q .ret ⟨n,e,st⟩ =∃a,Wk k ⟨n,e,st⟩ a/\q a:=by exact rfl)(g:q ⟨n,Aa L,st⟩:=by exact And.intro rfl rfl):AW P k .ret Q ⟨n,e,st⟩:=Aq (hq▸⟨_,AJ h,g⟩)
theorem rd {Q:Exit->St->Prop}{q:St->Prop}(L:List (Nat×AV))(h:TP (λt=>KB [] (e t)) L=Ss L:=by exact rfl)(hq:Q .ret ⟨n,e,st⟩ =∃a,Wk 0 ⟨n,e,st⟩ a/\q a:=by exact rfl)(g:q ⟨n,Aa L,[]⟩:=by exact And.intro rfl rfl):AW P 0 .ret Q ⟨n,e,st⟩:=Aq (hq▸⟨_,Bn L h,g⟩)
end
end Go.Abs
namespace RC
open Go Go.Abs
structure Cell where
 count:Int
 tag:Int
 fields:List Int
def eI (n:Int):List AV:=[.int .i64 n]
def E4 (n:Int):List AV:=[.int .u8 n]
def eB (b:Bool):List AV:=[.bool b]
def eS {α:Type}(e:α->List AV)(l:List α):List AV:=[.sl (l.map e)]
def Gu (n:Int):Prop:=-9223372036854775808<=n/\n<=9223372036854775807
def U8 (n:Int):Prop:=0<=n/\n<=255
def IH {α:Type}(Vl:α->Prop)(l:List α):Prop:=(∀x∈l,Vl x)/\l.length<=9223372036854775807
structure YG (c:Cell):Prop where
 count:Gu c.count
 tag:Gu c.tag
 LQ:IH Gu c.fields
theorem YG.len {c:Cell}(h:YG c):c.fields.length<=9223372036854775807:=h.LQ.2
end RC
namespace RC
open Go Go.Abs
structure LD (S:Type) where
 steps:List S
 result:Int
inductive Step where
 | mk (op num bK:Int) (args:List Int) (kids:List (LD Step))
abbrev Block:=LD Step
@[reducible] def Block.mk (steps:List Step)(result:Int):Block:=⟨steps,result⟩
def Step.op:Step->Int|.mk o _ _ _ _=>o
def Step.num:Step->Int|.mk _ n _ _ _=>n
def Step.bK:Step->Int|.mk _ _ i _ _=>i
def Step.args:Step->List Int|.mk _ _ _ a _=>a
def Step.kids:Step->List Block|.mk _ _ _ _ k=>k
noncomputable def XO (s:Step):List AV:=
 Step.rec (motive_1:=λ_=>List AV) (motive_2:=λ_=>List (List AV)) (motive_3:=λ_=>List AV) (motive_4:=λ_=>List (List AV))
  (λo n i a _ ks=>[.int .i64 o,.int .i64 n,.int .i64 i,.sl (a.map eI),.sl ks])
  [] (λ_ _ b bs=>b::bs) (λ_ r ss=>[.sl ss,.int .i64 r]) [] (λ_ _ s ss=>s::ss) s
noncomputable def Xh (b:Block):List AV:=[.sl (b.steps.map XO),.int .i64 b.result]
theorem ZL (ks:List Block):
  Step.rec_1 (motive_1:=λ_=>List AV) (motive_2:=λ_=>List (List AV)) (motive_3:=λ_=>List AV) (motive_4:=λ_=>List (List AV))
  (λo n i a _ ks=>[.int .i64 o,.int .i64 n,.int .i64 i,.sl (a.map eI),.sl ks])
  [] (λ_ _ b bs=>b::bs) (λ_ r ss=>[.sl ss,.int .i64 r]) [] (λ_ _ s ss=>s::ss) ks=ks.map Xh:=by
 have key:∀ss:List Step,Step.rec_3 (motive_1:=λ_=>List AV) (motive_2:=λ_=>List (List AV)) (motive_3:=λ_=>List AV) (motive_4:=λ_=>List (List AV))
  (λo n i a _ ks=>[.int .i64 o,.int .i64 n,.int .i64 i,.sl (a.map eI),.sl ks])
  [] (λ_ _ b bs=>b::bs) (λ_ r ss=>[.sl ss,.int .i64 r]) [] (λ_ _ s ss=>s::ss) ss=ss.map XO:=by
  intro ss
  induction ss with
  | nil=>rfl
  | cons s ss ih=>exact kf (XO s::·) ih
 induction ks with
 | nil=>rfl
 | cons b ks ih=>
  obtain⟨ss,r⟩:=b;exact (kf (·::_) (kf (λx=>[AV.sl x,AV.int .i64 r]) (key ss))).trans (kf (Xh ⟨ss,r⟩::·) ih)
theorem iP (s:Step):XO s=[.int .i64 s.op,.int .i64 s.num,.int .i64 s.bK,.sl (s.args.map eI),.sl (s.kids.map Xh)]:=by
 obtain⟨o,n,i,a,k⟩:=s;exact kf (λx=>[AV.int .i64 o,.int .i64 n,.int .i64 i,.sl (a.map eI),.sl x]) (ZL k)
end RC
namespace RC
open Go Go.Abs
structure Db where
 fields:List Int
structure AM where
 from_:Int
 to:Int
 cons:List Db
structure bT where
 op:Int
 dst:Int
 num:Int
 bK:Int
 args:List Int
 jumps:List Int
structure eA where
 params:List Int
 Fu:List Int
 result:Int
 jc:Int
 code:List bT
structure er where
 decls:List AM
 procs:List eA
structure Bt where
 params:List Int
 Fu:List Int
 result:Int
structure BO where
 decls:List AM
 funcs:List Bt
inductive AE where
 | mk (op num:Int) (kids:List AE)
def AE.op:AE->Int|.mk o _ _=>o
def AE.num:AE->Int|.mk _ n _=>n
def AE.kids:AE->List AE|.mk _ _ k=>k
theorem HR (s:AE):s=AE.mk s.op s.num s.kids:=by cases s;rfl
structure Ac where
 params:List Int
 result:Int
 body:AE
structure AP where
 decls:List AM
 funcs:List Ac
def CB (c:Db):List AV:=[.sl (c.fields.map eI)]
def Aj (d:AM):List AV:=[.int .i64 d.from_,.int .i64 d.to,.sl (d.cons.map CB)]
def CD (p:Bt):List AV:=[.sl (p.params.map eI),.sl (p.Fu.map eI),.int .i64 p.result]
def GB (x:BO):List AV:=[.sl (x.decls.map Aj),.sl (x.funcs.map CD)]
noncomputable def Au (s:AE):List AV:=
 AE.rec (motive_1:=λ_=>List AV) (motive_2:=λ_=>List (List AV)) (λo n _ ks=>[.int .i64 o,.int .i64 n,.sl ks]) [] (λ_ _ b bs=>b::bs) s
theorem X3 (ks:List AE):
  AE.rec_1 (motive_1:=λ_=>List AV) (motive_2:=λ_=>List (List AV)) (λo n _ ks=>[.int .i64 o,.int .i64 n,.sl ks]) [] (λ_ _ b bs=>b::bs) ks=ks.map Au:=by
 induction ks with
 | nil=>rfl
 | cons b ks ih=>exact kf (Au b::·) ih
theorem Ai (s:AE):Au s=[.int .i64 s.op,.int .i64 s.num,.sl (s.kids.map Au)]:=by
 obtain⟨o,n,k⟩:=s;exact kf (λx=>[AV.int .i64 o,.int .i64 n,.sl x]) (X3 k)
theorem Ad (s:AE):(Au s).all simple=true:=by rw[Ai];rfl
theorem DS (s:AE):(Au s).length=3:=by rw[Ai];rfl
noncomputable def BS (f:Ac):List AV:=[.sl (f.params.map eI),.int .i64 f.result,.int .i64 f.body.op,.int .i64 f.body.num,.sl (f.body.kids.map Au)]
noncomputable def gp (x:AP):List AV:=[.sl (x.decls.map Aj),.sl (x.funcs.map BS)]
structure eh (c:Db):Prop where
 fields:IH Gu c.fields
structure MO (d:AM):Prop where
 from_:Gu d.from_
 to:Gu d.to
 cons:IH eh d.cons
end RC
namespace RC
open Go Go.Abs
inductive An:AE->Prop where
 | mk {e:AE}:Gu e.op->Gu e.num->e.kids.length<=9223372036854775807->(∀k∈e.kids,An k)->An e
theorem An.op {e:AE}(h:An e):Gu e.op:=by cases h;assumption
theorem An.num {e:AE}(h:An e):Gu e.num:=by cases h;assumption
theorem An.LB {e:AE}(h:An e):e.kids.length<=9223372036854775807:=by cases h;assumption
theorem An.kids {e:AE}(h:An e):∀k∈e.kids,An k:=by cases h;assumption
theorem gA (a0:List Int)(a1:Int)(a2:AE):BS ⟨a0,a1,a2⟩=eS eI a0++(eI a1++Au a2):=by rw[Ai];rfl
structure Vu (f:Ac):Prop where
 params:IH Gu f.params
 result:Gu f.result
 body:An f.body
structure Ye (p:AP):Prop where
 decls:IH MO p.decls
 funcs:IH Vu p.funcs
structure cf where
 params:List Int
 Fu:List Int
 result:Int
 body:Block
structure IT where
 decls:List AM
 iN:List cf
end RC
namespace RC
open Go Go.Abs
theorem RW {α:Type}{l:List α}{enc enc':α->List AV}(h :∀x,Ho (enc x)=enc' x):KJ (l.map enc)=l.map enc':=by
 rw[Hv,lU];exact kM λx _=>h x
theorem ax (n:Int):Ho (eI n)=eI n:=rfl
end RC
namespace RC
open Go Go.Abs
end RC
namespace RC
open Go Go.Abs
def HL (a:Nat)(c:Db):List AV:=[.dv a 1 (c.fields.map eI)]
theorem Yc {a:Nat}(c:Db):Ho (HL a c)=CB c:=by
 simp only[HL,Ho,Oj,RW ax,CB]
def BZ (a b:Nat)(d:AM):List AV:=[.int .i64 d.from_,.int .i64 d.to,.dv a 1 (d.cons.map (HL b))]
theorem X0 {a b:Nat}(d:AM):Ho (BZ a b d)=Aj d:=by
 simp only[BZ,Ho,Oj,RW Yc,Aj]
end RC
namespace RC
open Go Go.Abs
noncomputable def BP (a:Nat)(s:AE):List AV:=
 AE.rec (motive_1:=λ_=>List AV) (motive_2:=λ_=>List (List AV)) (λo n _ ks=>[.int .i64 o,.int .i64 n,.dv a 3 ks]) [] (λ_ _ b bs=>b::bs) s
theorem WX (a:Nat)(ks:List AE):
  AE.rec_1 (motive_1:=λ_=>List AV) (motive_2:=λ_=>List (List AV)) (λo n _ ks=>[.int .i64 o,.int .i64 n,.dv a 3 ks]) [] (λ_ _ b bs=>b::bs) ks=ks.map (BP a):=by
 induction ks with
 | nil=>rfl
 | cons b ks ih=>exact kf (BP a b::·) ih
theorem Cv {a:Nat}(s:AE):BP a s=[.int .i64 s.op,.int .i64 s.num,.dv a 3 (s.kids.map (BP a))]:=by
 obtain⟨o,n,k⟩:=s;exact kf (λx=>[AV.int .i64 o,.int .i64 n,.dv a 3 x]) (WX a k)
theorem Al {a:Nat}(s:AE):(BP a s).all EY=true:=by rw[Cv];rfl
theorem Eu {a:Nat}(s:AE):(BP a s).all PW=true:=by rw[Cv];rfl
mutual
theorem Lo {a:Nat}:∀s:AE,Ho (BP a s)=Au s
 | .mk o n k=>by
  rw[Cv,Ai];simp only[Ho,Oj,AE.op,AE.num,AE.kids,QW k]
theorem QW {a:Nat}:∀l:List AE,KJ (l.map (BP a))=l.map Au
 | []=>rfl
 | e::l=>by simp only[kI,KJ,Lo e,QW l]
end
noncomputable def DK (a b:Nat)(f:Ac):List AV:=[.dv a 1 (f.params.map eI),.int .i64 f.result,.int .i64 f.body.op,.int .i64 f.body.num,.dv b 3 (f.body.kids.map (BP b))]
theorem XY {a b:Nat}(f:Ac):Ho (DK a b f)=BS f:=by
 simp only[DK,Ho,Oj,RW ax,RW Lo,BS]
end RC
namespace RC
end RC
