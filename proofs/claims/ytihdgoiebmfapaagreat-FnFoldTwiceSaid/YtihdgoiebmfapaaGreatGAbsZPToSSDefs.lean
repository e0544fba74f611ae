import Derived.Test.YtihdgoiebmfapaaGreatGAbsXToAbsZN
import Derived.Test.YtihdgoiebmfapaaGreatAbsQ
import Derived.Lib.SlicesCompact
set_option linter.all false
namespace Go.Abs
open Go
section
variable {P : Program} {k : Nat} {ops vz : Array Oper} {Q : Exit -> St -> Prop} {N f f' n : Nat} {l l' : Array Bool} {s s' : St} {A : Nat -> Array Bool -> St -> Prop} {L : List (Nat × AV)} {st : List Row} {e : Nat -> AV} {ds : List (Option Tmp)} {t : Tmp} {op : Op} {ty : TypeId} {ps : String} {ed : Array Edge} {v : AV} {o : Oper}
theorem xw (hA :∀f l s,A f l s↔AX P k ops Q N f l s)(h:A f l s')(hw:Wk k s s')(hl:l=l':=by kernel_rfl)(hn:s.n=N:=by exact rfl):AX P k ops Q N f l' s:=As hw (BG hl ((hA _ _ _).1 h)) hn
theorem yw (hA :∀f l s,A f l s↔AY P k ops Q N f l s)(h:A f l s')(hw:Wk k s s')(hl:l=l':=by kernel_rfl)(hn:s.n=N:=by exact rfl):AY P k ops Q N f l' s:=Rx hw (Wy hl ((hA _ _ _).1 h)) hn
theorem xt (hA :∀f l s,A f l s↔AX P k ops Q N f l s)(h:A f l ⟨n,Aa L,st⟩)(hw:TH e L=TC L:=by exact rfl)(hl:l=l':=by kernel_rfl)(hn:n=N:=by exact rfl):AX P k ops Q N f l' ⟨n,e,st⟩:=xw hA h (AJ hw) hl hn
theorem Z0 (hA :∀f l s,A f l s↔AY P k ops Q N f l s)(h:A f l ⟨n,Aa L,st⟩)(hw:TH e L=TC L:=by exact rfl)(hl:l=l':=by kernel_rfl)(hn:n=N:=by exact rfl):AY P k ops Q N f l' ⟨n,e,st⟩:=yw hA h (AJ hw) hl hn
theorem NU (hA :∀f l s,A f l s↔AX P k ops Q N f l s)(h:A f l s')(hw:Wk k s s')(hl:l=l':=by kernel_rfl)(hn:s.n=N:=by exact rfl):AO P k vz (λe s'=>e=.normal/\AX P k ops Q N f l' s') ds [] s:=AF ⟨rfl,xw hA h hw hl hn⟩
theorem ZH (hA :∀f l s,A f l s↔AY P k ops Q N f l s)(h:A f l s')(hw:Wk k s s')(hl:l=l':=by kernel_rfl)(hn:s.n=N:=by exact rfl):AO P k vz (λe s'=>e=.normal/\AY P k ops Q N f l' s') ds [] s:=AF ⟨rfl,yw hA h hw hl hn⟩
theorem xd (hA :∀f l s,A f l s↔AX P k ops Q N f l s)(h:A f l ⟨n,Aa L,st⟩)(hw:TH e L=TC L:=by exact rfl)(hl:l=l':=by kernel_rfl)(hn:n=N:=by exact rfl):AO P k vz (λe s'=>e=.normal/\AX P k ops Q N f l' s') ds [] ⟨n,e,st⟩:=AF ⟨rfl,xt hA h hw hl hn⟩
theorem yd (hA :∀f l s,A f l s↔AY P k ops Q N f l s)(h:A f l ⟨n,Aa L,st⟩)(hw:TH e L=TC L:=by exact rfl)(hl:l=l':=by kernel_rfl)(hn:n=N:=by exact rfl):AO P k vz (λe s'=>e=.normal/\AY P k ops Q N f l' s') ds [] ⟨n,e,st⟩:=AF ⟨rfl,Z0 hA h hw hl hn⟩
theorem xo (i:Nat)(h:AO P k (ops.extract 0 (i+1)) (λe s'=>e=.normal/\AX P k ops Q N f (l.setIfInBounds i true) s') ((ops.toList.take i).map (·.dst)) [o] s)(ho:ops[i]?=some o:=by exact rfl)(hg:Nq o i=true:=by exact rfl)(hd:(ops.toList.all λo=>DC s.n o.dst)=true:=by rfl):Ec P k ops Q N f l s i:=Ec.of ho hg hd h
theorem yo (i:Nat)(h:AO P k (ops.extract 0 (i+1)) (λe s'=>e=.normal/\AY P k ops Q N f (l.setIfInBounds i true) s') ((ops.toList.take i).map (·.dst)) [o] s)(ho:ops[i]?=some o:=by exact rfl)(hg:Nq o i=true:=by exact rfl)(hd:(ops.toList.all λo=>DC s.n o.dst)=true:=by rfl):Y4 P k ops Q N f l s i:=Y4.of ho hg hd h
theorem xq {i:Nat}(T:KZ P)(hA :∀f l s,A f l s↔AX P k ops Q N f l s)(h:A f l' ⟨n,Aa L,st⟩)(ho:ops[i]?=some ⟨some t,op,ty,ps,ed,none⟩:=by exact rfl)(hd:(ops.toList.all λo=>DC n o.dst)=true:=by rfl)
  (hq:qL T ⟨n,e,st⟩ op=some v:=by exact rfl) (hw:TH (EC e t v) L=TC L:=by exact rfl) (hl:l'=l.setIfInBounds i true:=by kernel_rfl) (hn:n=N:=by exact rfl):Ec P k ops Q N f l ⟨n,e,st⟩ i:=Ec.of ho rfl hd (zq T hq (xd hA h hw hl hn))
theorem Z9 {i:Nat}(T:KZ P)(hA :∀f l s,A f l s↔AY P k ops Q N f l s)(h:A f l' ⟨n,Aa L,st⟩)(ho:ops[i]?=some ⟨some t,op,ty,ps,ed,none⟩:=by exact rfl)(hd:(ops.toList.all λo=>DC n o.dst)=true:=by rfl)
  (hq:qL T ⟨n,e,st⟩ op=some v:=by exact rfl) (hw:TH (EC e t v) L=TC L:=by exact rfl) (hl:l'=l.setIfInBounds i true:=by kernel_rfl) (hn:n=N:=by exact rfl):Y4 P k ops Q N f l ⟨n,e,st⟩ i:=Y4.of ho rfl hd (zq T hq (yd hA h hw hl hn))
theorem xa (rs:List Nat)(h:bc P k ops Q N f l s rs)(hr:Region.ready .any ops l=rs:=by kernel_rfl)(pN:rs≠[]:=by decide)(hn:s.n=N:=by exact rfl):AX P k ops Q N (f+1) l s:=CJ rs hn hr pN h
theorem ya (rs:List Nat)(h:cL P k ops Q N f l s rs)(hr:Region.ready .any ops l=rs:=by kernel_rfl)(pN:rs≠[]:=by decide)(hn:s.n=N:=by exact rfl):AY P k ops Q N (f+1) l s:=AY.all rs hn hr pN h
theorem rt {Q:Exit->St->Prop}{q:St->Prop}(L:List (Nat×AV))(h:TH e L=TC L:=by exact rfl)(hq:Q .ret ⟨n,e,st⟩ =∃a,Wk k ⟨n,e,st⟩ a/\q a:=by exact rfl)(g:q ⟨n,Aa L,st⟩:=by exact And.intro rfl rfl):AW P k .ret Q ⟨n,e,st⟩:=Aq (hq▸⟨_,AJ h,g⟩)
theorem rd {Q:Exit->St->Prop}{q:St->Prop}(L:List (Nat×AV))(h:TH (λt=>KB [] (e t)) L=TC L:=by exact rfl)(hq:Q .ret ⟨n,e,st⟩ =∃a,Wk 0 ⟨n,e,st⟩ a/\q a:=by exact rfl)(g:q ⟨n,Aa L,[]⟩:=by exact And.intro rfl rfl):AW P 0 .ret Q ⟨n,e,st⟩:=Aq (hq▸⟨_,Bn L h,g⟩)
end
end Go.Abs
namespace RC
open Go Go.Abs
structure Cell where
 count:Int
 tag:Int
 fields:List Int
def eI (n:Int):List AV:=[.int .i64 n]
def E4 (n:Int):List AV:=[.int .u8 n]
def eB (b:Bool):List AV:=[.bool b]
def eS {α:Type}(e:α->List AV)(l:List α):List AV:=[.sl (l.map e)]
def Gw (n:Int):Prop:=-9223372036854775808<=n/\n<=9223372036854775807
def U8 (n:Int):Prop:=0<=n/\n<=255
def IE {α:Type}(Vc:α->Prop)(l:List α):Prop:=(∀x∈l,Vc x)/\l.length<=9223372036854775807
structure X8 (c:Cell):Prop where
 count:Gw c.count
 tag:Gw c.tag
 LD:IE Gw c.fields
theorem X8.len {c:Cell}(h:X8 c):c.fields.length<=9223372036854775807:=h.LD.2
end RC
namespace RC
open Go Go.Abs
structure LF (S:Type) where
 steps:List S
 result:Int
inductive Step where
 | mk (op num bA:Int) (args:List Int) (kids:List (LF Step))
abbrev Block:=LF Step
@[reducible] def Block.mk (steps:List Step)(result:Int):Block:=⟨steps,result⟩
def Step.op:Step->Int|.mk o _ _ _ _=>o
def Step.num:Step->Int|.mk _ n _ _ _=>n
def Step.bA:Step->Int|.mk _ _ i _ _=>i
def Step.args:Step->List Int|.mk _ _ _ a _=>a
def Step.kids:Step->List Block|.mk _ _ _ _ k=>k
noncomputable def Xd (s:Step):List AV:=
 Step.rec (motive_1:=λ_=>List AV) (motive_2:=λ_=>List (List AV)) (motive_3:=λ_=>List AV) (motive_4:=λ_=>List (List AV))
  (λo n i a _ ks=>[.int .i64 o,.int .i64 n,.int .i64 i,.sl (a.map eI),.sl ks])
  [] (λ_ _ b bs=>b::bs) (λ_ r ss=>[.sl ss,.int .i64 r]) [] (λ_ _ s ss=>s::ss) s
noncomputable def Xf (b:Block):List AV:=[.sl (b.steps.map Xd),.int .i64 b.result]
theorem ZF (ks:List Block):
  Step.rec_1 (motive_1:=λ_=>List AV) (motive_2:=λ_=>List (List AV)) (motive_3:=λ_=>List AV) (motive_4:=λ_=>List (List AV))
  (λo n i a _ ks=>[.int .i64 o,.int .i64 n,.int .i64 i,.sl (a.map eI),.sl ks])
  [] (λ_ _ b bs=>b::bs) (λ_ r ss=>[.sl ss,.int .i64 r]) [] (λ_ _ s ss=>s::ss) ks=ks.map Xf:=by
 have key:∀ss:List Step,Step.rec_3 (motive_1:=λ_=>List AV) (motive_2:=λ_=>List (List AV)) (motive_3:=λ_=>List AV) (motive_4:=λ_=>List (List AV))
  (λo n i a _ ks=>[.int .i64 o,.int .i64 n,.int .i64 i,.sl (a.map eI),.sl ks])
  [] (λ_ _ b bs=>b::bs) (λ_ r ss=>[.sl ss,.int .i64 r]) [] (λ_ _ s ss=>s::ss) ss=ss.map Xd:=by
  intro ss
  induction ss with
  | nil=>rfl
  | cons s ss ih=>exact kf (Xd s::·) ih
 induction ks with
 | nil=>rfl
 | cons b ks ih=>
  obtain⟨ss,r⟩:=b;exact (kf (·::_) (kf (λx=>[AV.sl x,AV.int .i64 r]) (key ss))).trans (kf (Xf ⟨ss,r⟩::·) ih)
theorem iN (s:Step):Xd s=[.int .i64 s.op,.int .i64 s.num,.int .i64 s.bA,.sl (s.args.map eI),.sl (s.kids.map Xf)]:=by
 obtain⟨o,n,i,a,k⟩:=s;exact kf (λx=>[AV.int .i64 o,.int .i64 n,.int .i64 i,.sl (a.map eI),.sl x]) (ZF k)
end RC
namespace RC
open Go Go.Abs
structure Db where
 fields:List Int
structure AM where
 from_:Int
 to:Int
 cons:List Db
structure bR where
 op:Int
 dst:Int
 num:Int
 bA:Int
 args:List Int
 jumps:List Int
structure dT where
 params:List Int
 Fv:List Int
 result:Int
 jc:Int
 code:List bR
structure ek where
 decls:List AM
 procs:List dT
structure Bt where
 params:List Int
 Fv:List Int
 result:Int
structure BO where
 decls:List AM
 funcs:List Bt
inductive AE where
 | mk (op num:Int) (kids:List AE)
def AE.op:AE->Int|.mk o _ _=>o
def AE.num:AE->Int|.mk _ n _=>n
def AE.kids:AE->List AE|.mk _ _ k=>k
theorem HG (s:AE):s=AE.mk s.op s.num s.kids:=by cases s;rfl
structure Ac where
 params:List Int
 result:Int
 body:AE
structure AP where
 decls:List AM
 funcs:List Ac
def CC (c:Db):List AV:=[.sl (c.fields.map eI)]
def Aj (d:AM):List AV:=[.int .i64 d.from_,.int .i64 d.to,.sl (d.cons.map CC)]
def CD (p:Bt):List AV:=[.sl (p.params.map eI),.sl (p.Fv.map eI),.int .i64 p.result]
def GB (x:BO):List AV:=[.sl (x.decls.map Aj),.sl (x.funcs.map CD)]
noncomputable def Au (s:AE):List AV:=
 AE.rec (motive_1:=λ_=>List AV) (motive_2:=λ_=>List (List AV)) (λo n _ ks=>[.int .i64 o,.int .i64 n,.sl ks]) [] (λ_ _ b bs=>b::bs) s
theorem Xc (ks:List AE):
  AE.rec_1 (motive_1:=λ_=>List AV) (motive_2:=λ_=>List (List AV)) (λo n _ ks=>[.int .i64 o,.int .i64 n,.sl ks]) [] (λ_ _ b bs=>b::bs) ks=ks.map Au:=by
 induction ks with
 | nil=>rfl
 | cons b ks ih=>exact kf (Au b::·) ih
theorem Ai (s:AE):Au s=[.int .i64 s.op,.int .i64 s.num,.sl (s.kids.map Au)]:=by
 obtain⟨o,n,k⟩:=s;exact kf (λx=>[AV.int .i64 o,.int .i64 n,.sl x]) (Xc k)
theorem Ad (s:AE):(Au s).all simple=true:=by rw[Ai];rfl
theorem DS (s:AE):(Au s).length=3:=by rw[Ai];rfl
noncomputable def BS (f:Ac):List AV:=[.sl (f.params.map eI),.int .i64 f.result,.int .i64 f.body.op,.int .i64 f.body.num,.sl (f.body.kids.map Au)]
noncomputable def hU (x:AP):List AV:=[.sl (x.decls.map Aj),.sl (x.funcs.map BS)]
structure fD (c:Db):Prop where
 fields:IE Gw c.fields
structure MY (d:AM):Prop where
 from_:Gw d.from_
 to:Gw d.to
 cons:IE fD d.cons
end RC
namespace RC
open Go Go.Abs
inductive An:AE->Prop where
 | mk {e:AE}:Gw e.op->Gw e.num->e.kids.length<=9223372036854775807->(∀k∈e.kids,An k)->An e
theorem An.op {e:AE}(h:An e):Gw e.op:=by cases h;assumption
theorem An.num {e:AE}(h:An e):Gw e.num:=by cases h;assumption
theorem An.LH {e:AE}(h:An e):e.kids.length<=9223372036854775807:=by cases h;assumption
theorem An.kids {e:AE}(h:An e):∀k∈e.kids,An k:=by cases h;assumption
theorem fy (a0:List Int)(a1:Int)(a2:AE):BS ⟨a0,a1,a2⟩=eS eI a0++(eI a1++Au a2):=by rw[Ai];rfl
structure Vf (f:Ac):Prop where
 params:IE Gw f.params
 result:Gw f.result
 body:An f.body
structure Y5 (p:AP):Prop where
 decls:IE MY p.decls
 funcs:IE Vf p.funcs
structure cU where
 params:List Int
 Fv:List Int
 result:Int
 body:Block
structure IK where
 decls:List AM
 iP:List cU
end RC
namespace RC
open Go Go.Abs
theorem Rn {α:Type}{l:List α}{enc qK:α->List AV}(h :∀x,Hz (enc x)=qK x):KO (l.map enc)=l.map qK:=by
 rw[Hx,lU];exact kM λx _=>h x
theorem bH (n:Int):Hz (eI n)=eI n:=rfl
end RC
namespace RC
open Go Go.Abs
end RC
namespace RC
open Go Go.Abs
def HW (a:Nat)(c:Db):List AV:=[.dv a 1 (c.fields.map eI)]
theorem ZE {a:Nat}(c:Db):Hz (HW a c)=CC c:=by
 simp only[HW,Hz,Ot,Rn bH,CC]
def BZ (a b:Nat)(d:AM):List AV:=[.int .i64 d.from_,.int .i64 d.to,.dv a 1 (d.cons.map (HW b))]
theorem Xv {a b:Nat}(d:AM):Hz (BZ a b d)=Aj d:=by
 simp only[BZ,Hz,Ot,Rn ZE,Aj]
end RC
namespace RC
open Go Go.Abs
noncomputable def BP (a:Nat)(s:AE):List AV:=
 AE.rec (motive_1:=λ_=>List AV) (motive_2:=λ_=>List (List AV)) (λo n _ ks=>[.int .i64 o,.int .i64 n,.dv a 3 ks]) [] (λ_ _ b bs=>b::bs) s
theorem Wh (a:Nat)(ks:List AE):
  AE.rec_1 (motive_1:=λ_=>List AV) (motive_2:=λ_=>List (List AV)) (λo n _ ks=>[.int .i64 o,.int .i64 n,.dv a 3 ks]) [] (λ_ _ b bs=>b::bs) ks=ks.map (BP a):=by
 induction ks with
 | nil=>rfl
 | cons b ks ih=>exact kf (BP a b::·) ih
theorem Cv {a:Nat}(s:AE):BP a s=[.int .i64 s.op,.int .i64 s.num,.dv a 3 (s.kids.map (BP a))]:=by
 obtain⟨o,n,k⟩:=s;exact kf (λx=>[AV.int .i64 o,.int .i64 n,.dv a 3 x]) (Wh a k)
theorem Al {a:Nat}(s:AE):(BP a s).all Ed=true:=by rw[Cv];rfl
theorem Eu {a:Nat}(s:AE):(BP a s).all PO=true:=by rw[Cv];rfl
mutual
theorem Lo {a:Nat}:∀s:AE,Hz (BP a s)=Au s
 | .mk o n k=>by
  rw[Cv,Ai];simp only[Hz,Ot,AE.op,AE.num,AE.kids,Qd k]
theorem Qd {a:Nat}:∀l:List AE,KO (l.map (BP a))=l.map Au
 | []=>rfl
 | e::l=>by simp only[kI,KO,Lo e,Qd l]
end
noncomputable def DK (a b:Nat)(f:Ac):List AV:=[.dv a 1 (f.params.map eI),.int .i64 f.result,.int .i64 f.body.op,.int .i64 f.body.num,.dv b 3 (f.body.kids.map (BP b))]
theorem Xw {a b:Nat}(f:Ac):Hz (DK a b f)=BS f:=by
 simp only[DK,Hz,Ot,Rn bH,Rn Lo,BS]
end RC
namespace RC
end RC
