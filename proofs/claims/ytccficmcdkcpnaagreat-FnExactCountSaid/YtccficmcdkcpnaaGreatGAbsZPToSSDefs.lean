import Derived.Test.YtccficmcdkcpnaaGreatGAbsXToAbsZN
import Derived.Test.YtccficmcdkcpnaaGreatAbsQ
import Derived.Lib.SlicesCompact
set_option linter.all false
namespace Go.Abs
open Go
section
variable {P : Program} {k : Nat} {ops ops' : Array Oper} {Q : Exit -> St -> Prop} {N f f' n : Nat} {l l' : Array Bool} {s s' : St} {A : Nat -> Array Bool -> St -> Prop} {L : List (Nat × AV)} {st : List Row} {e : Nat -> AV} {ds : List (Option Tmp)} {t : Tmp} {op : Op} {ty : TypeId} {ps : String} {ed : Array Edge} {v : AV} {o : Oper}
theorem xw (hA :∀f l s,A f l s↔AX P k ops Q N f l s)(h:A f l s')(hw:Wk k s s')(hl:l=l':=by kernel_rfl)(hn:s.n=N:=by exact rfl):AX P k ops Q N f l' s:=Vp hw (Wv hl ((hA _ _ _).1 h)) hn
theorem yw (hA :∀f l s,A f l s↔AY P k ops Q N f l s)(h:A f l s')(hw:Wk k s s')(hl:l=l':=by kernel_rfl)(hn:s.n=N:=by exact rfl):AY P k ops Q N f l' s:=LZ hw (PC hl ((hA _ _ _).1 h)) hn
theorem xt (hA :∀f l s,A f l s↔AX P k ops Q N f l s)(h:A f l ⟨n,AJ L,st⟩)(hw:Vw e L=Vo L:=by exact rfl)(hl:l=l':=by kernel_rfl)(hn:n=N:=by exact rfl):AX P k ops Q N f l' ⟨n,e,st⟩:=xw hA h (F3 hw) hl hn
theorem I6 (hA :∀f l s,A f l s↔AY P k ops Q N f l s)(h:A f l ⟨n,AJ L,st⟩)(hw:Vw e L=Vo L:=by exact rfl)(hl:l=l':=by kernel_rfl)(hn:n=N:=by exact rfl):AY P k ops Q N f l' ⟨n,e,st⟩:=yw hA h (F3 hw) hl hn
theorem aJ (hA :∀f l s,A f l s↔AX P k ops Q N f l s)(h:A f l s')(hw:Wk k s s')(hl:l=l':=by kernel_rfl)(hn:s.n=N:=by exact rfl):AO P k ops' (λe s'=>e=.normal/\AX P k ops Q N f l' s') ds [] s:=AD ⟨rfl,xw hA h hw hl hn⟩
theorem JY (hA :∀f l s,A f l s↔AY P k ops Q N f l s)(h:A f l s')(hw:Wk k s s')(hl:l=l':=by kernel_rfl)(hn:s.n=N:=by exact rfl):AO P k ops' (λe s'=>e=.normal/\AY P k ops Q N f l' s') ds [] s:=AD ⟨rfl,yw hA h hw hl hn⟩
theorem xd (hA :∀f l s,A f l s↔AX P k ops Q N f l s)(h:A f l ⟨n,AJ L,st⟩)(hw:Vw e L=Vo L:=by exact rfl)(hl:l=l':=by kernel_rfl)(hn:n=N:=by exact rfl):AO P k ops' (λe s'=>e=.normal/\AX P k ops Q N f l' s') ds [] ⟨n,e,st⟩:=AD ⟨rfl,xt hA h hw hl hn⟩
theorem yd (hA :∀f l s,A f l s↔AY P k ops Q N f l s)(h:A f l ⟨n,AJ L,st⟩)(hw:Vw e L=Vo L:=by exact rfl)(hl:l=l':=by kernel_rfl)(hn:n=N:=by exact rfl):AO P k ops' (λe s'=>e=.normal/\AY P k ops Q N f l' s') ds [] ⟨n,e,st⟩:=AD ⟨rfl,I6 hA h hw hl hn⟩
theorem xo (i:Nat)(h:AO P k (ops.extract 0 (i+1)) (λe s'=>e=.normal/\AX P k ops Q N f (l.setIfInBounds i true) s') ((ops.toList.take i).map (·.dst)) [o] s)(ho:ops[i]?=some o:=by exact rfl)(hg:RM o i=true:=by exact rfl)(hd:(ops.toList.all λo=>DK s.n o.dst)=true:=by rfl):Kz P k ops Q N f l s i:=Kz.of ho hg hd h
theorem yo (i:Nat)(h:AO P k (ops.extract 0 (i+1)) (λe s'=>e=.normal/\AY P k ops Q N f (l.setIfInBounds i true) s') ((ops.toList.take i).map (·.dst)) [o] s)(ho:ops[i]?=some o:=by exact rfl)(hg:RM o i=true:=by exact rfl)(hd:(ops.toList.all λo=>DK s.n o.dst)=true:=by rfl):fb P k ops Q N f l s i:=fb.of ho hg hd h
theorem xq {i:Nat}(T:Mo P)(hA :∀f l s,A f l s↔AX P k ops Q N f l s)(h:A f l' ⟨n,AJ L,st⟩)(ho:ops[i]?=some ⟨some t,op,ty,ps,ed,none⟩:=by exact rfl)(hd:(ops.toList.all λo=>DK n o.dst)=true:=by rfl)
  (hq:qL T ⟨n,e,st⟩ op=some v:=by exact rfl) (hw:Vw (EW e t v) L=Vo L:=by exact rfl) (hl:l'=l.setIfInBounds i true:=by kernel_rfl) (hn:n=N:=by exact rfl):Kz P k ops Q N f l ⟨n,e,st⟩ i:=Kz.of ho rfl hd (zq T hq (xd hA h hw hl hn))
theorem Lq {i:Nat}(T:Mo P)(hA :∀f l s,A f l s↔AY P k ops Q N f l s)(h:A f l' ⟨n,AJ L,st⟩)(ho:ops[i]?=some ⟨some t,op,ty,ps,ed,none⟩:=by exact rfl)(hd:(ops.toList.all λo=>DK n o.dst)=true:=by rfl)
  (hq:qL T ⟨n,e,st⟩ op=some v:=by exact rfl) (hw:Vw (EW e t v) L=Vo L:=by exact rfl) (hl:l'=l.setIfInBounds i true:=by kernel_rfl) (hn:n=N:=by exact rfl):fb P k ops Q N f l ⟨n,e,st⟩ i:=fb.of ho rfl hd (zq T hq (yd hA h hw hl hn))
theorem xa (rs:List Nat)(h:kx P k ops Q N f l s rs)(hr:Region.ready .any ops l=rs:=by kernel_rfl)(hne:rs≠[]:=by decide)(hn:s.n=N:=by exact rfl):AX P k ops Q N (f+1) l s:=AX.all rs hn hr hne h
theorem ya (rs:List Nat)(h:lV P k ops Q N f l s rs)(hr:Region.ready .any ops l=rs:=by kernel_rfl)(hne:rs≠[]:=by decide)(hn:s.n=N:=by exact rfl):AY P k ops Q N (f+1) l s:=AY.all rs hn hr hne h
theorem rt {Q:Exit->St->Prop}{q:St->Prop}(L:List (Nat×AV))(h:Vw e L=Vo L:=by exact rfl)(hq:Q .ret ⟨n,e,st⟩ =∃a,Wk k ⟨n,e,st⟩ a/\q a:=by exact rfl)(g:q ⟨n,AJ L,st⟩:=by exact And.intro rfl rfl):AW P k .ret Q ⟨n,e,st⟩:=BP (hq▸⟨_,F3 h,g⟩)
theorem rd {Q:Exit->St->Prop}{q:St->Prop}(L:List (Nat×AV))(h:Vw (λt=>L0 [] (e t)) L=Vo L:=by exact rfl)(hq:Q .ret ⟨n,e,st⟩ =∃a,Wk 0 ⟨n,e,st⟩ a/\q a:=by exact rfl)(g:q ⟨n,AJ L,[]⟩:=by exact And.intro rfl rfl):AW P 0 .ret Q ⟨n,e,st⟩:=BP (hq▸⟨_,BT L h,g⟩)
end
end Go.Abs
namespace RC
open Go Go.Abs
structure Cell where
 count:Int
 tag:Int
 fields:List Int
def eI (n:Int):List AV:=[.int .i64 n]
def iD (n:Int):List AV:=[.int .u8 n]
def eB (b:Bool):List AV:=[.bool b]
def eS {α:Type}(e:α->List AV)(l:List α):List AV:=[.sl (l.map e)]
def Mm (n:Int):Prop:=-9223372036854775808<=n/\n<=9223372036854775807
def U8 (n:Int):Prop:=0<=n/\n<=255
def F7 {α:Type}(good:α->Prop)(l:List α):Prop:=(∀x∈l,good x)/\l.length<=9223372036854775807
structure dZ (c:Cell):Prop where
 count:Mm c.count
 tag:Mm c.tag
 Qr:F7 Mm c.fields
theorem dZ.len {c:Cell}(h:dZ c):c.fields.length<=9223372036854775807:=h.Qr.2
end RC
namespace RC
open Go Go.Abs
structure GX (S:Type) where
 steps:List S
 result:Int
inductive Step where
 | mk (op num BF:Int) (args:List Int) (kids:List (GX Step))
abbrev Block:=GX Step
@[reducible] def Block.mk (steps:List Step)(result:Int):Block:=⟨steps,result⟩
def Step.op:Step->Int|.mk o _ _ _ _=>o
def Step.num:Step->Int|.mk _ n _ _ _=>n
def Step.BF:Step->Int|.mk _ _ i _ _=>i
def Step.args:Step->List Int|.mk _ _ _ a _=>a
def Step.kids:Step->List Block|.mk _ _ _ _ k=>k
theorem Step.eta (s:Step):s=Step.mk s.op s.num s.BF s.args s.kids:=by cases s;rfl
noncomputable def Ba (s:Step):List AV:=
 Step.rec (motive_1:=λ_=>List AV) (motive_2:=λ_=>List (List AV)) (motive_3:=λ_=>List AV) (motive_4:=λ_=>List (List AV))
  (λo n i a _ ks=>[.int .i64 o,.int .i64 n,.int .i64 i,.sl (a.map eI),.sl ks])
  [] (λ_ _ b bs=>b::bs) (λ_ r ss=>[.sl ss,.int .i64 r]) [] (λ_ _ s ss=>s::ss) s
noncomputable def BS (b:Block):List AV:=[.sl (b.steps.map Ba),.int .i64 b.result]
theorem fk (ks:List Block):
  Step.rec_1 (motive_1:=λ_=>List AV) (motive_2:=λ_=>List (List AV)) (motive_3:=λ_=>List AV) (motive_4:=λ_=>List (List AV))
  (λo n i a _ ks=>[.int .i64 o,.int .i64 n,.int .i64 i,.sl (a.map eI),.sl ks])
  [] (λ_ _ b bs=>b::bs) (λ_ r ss=>[.sl ss,.int .i64 r]) [] (λ_ _ s ss=>s::ss) ks=ks.map BS:=by
 have key:∀ss:List Step,Step.rec_3 (motive_1:=λ_=>List AV) (motive_2:=λ_=>List (List AV)) (motive_3:=λ_=>List AV) (motive_4:=λ_=>List (List AV))
  (λo n i a _ ks=>[.int .i64 o,.int .i64 n,.int .i64 i,.sl (a.map eI),.sl ks])
  [] (λ_ _ b bs=>b::bs) (λ_ r ss=>[.sl ss,.int .i64 r]) [] (λ_ _ s ss=>s::ss) ss=ss.map Ba:=by
  intro ss
  induction ss with
  | nil=>rfl
  | cons s ss ih=>exact vI (Ba s::·) ih
 induction ks with
 | nil=>rfl
 | cons b ks ih=>
  obtain⟨ss,r⟩:=b;exact (vI (·::_) (vI (λx=>[AV.sl x,AV.int .i64 r]) (key ss))).trans (vI (BS ⟨ss,r⟩::·) ih)
theorem CE (s:Step):Ba s=[.int .i64 s.op,.int .i64 s.num,.int .i64 s.BF,.sl (s.args.map eI),.sl (s.kids.map BS)]:=by
 obtain⟨o,n,i,a,k⟩:=s;exact vI (λx=>[AV.int .i64 o,.int .i64 n,.int .i64 i,.sl (a.map eI),.sl x]) (fk k)
theorem Az (s:Step):(Ba s).all simple=true:=by rw[CE];rfl
theorem H3 (s:Step):(Ba s).length=5:=by rw[CE];rfl
end RC
namespace RC
open Go Go.Abs
structure Bw where
 fields:List Int
structure AP where
 from_:Int
 to:Int
 cons:List Bw
structure dI where
 op:Int
 dst:Int
 num:Int
 BF:Int
 args:List Int
 jumps:List Int
structure iS where
 params:List Int
 Aq:List Int
 result:Int
 tL:Int
 code:List dI
structure pO where
 decls:List AP
 procs:List iS
structure Aw where
 params:List Int
 Aq:List Int
 result:Int
structure Ap where
 decls:List AP
 funcs:List Aw
inductive Ee where
 | mk (op num:Int) (kids:List Ee)
def Ee.op:Ee->Int|.mk o _ _=>o
def Ee.num:Ee->Int|.mk _ n _=>n
def Ee.kids:Ee->List Ee|.mk _ _ k=>k
structure Kf where
 params:List Int
 result:Int
 body:Ee
structure Ej where
 decls:List AP
 funcs:List Kf
def By (c:Bw):List AV:=[.sl (c.fields.map eI)]
def Ai (d:AP):List AV:=[.int .i64 d.from_,.int .i64 d.to,.sl (d.cons.map By)]
def BI (p:Aw):List AV:=[.sl (p.params.map eI),.sl (p.Aq.map eI),.int .i64 p.result]
def Cp (x:Ap):List AV:=[.sl (x.decls.map Ai),.sl (x.funcs.map BI)]
noncomputable def jx (s:Ee):List AV:=
 Ee.rec (motive_1:=λ_=>List AV) (motive_2:=λ_=>List (List AV)) (λo n _ ks=>[.int .i64 o,.int .i64 n,.sl ks]) [] (λ_ _ b bs=>b::bs) s
noncomputable def Kn (f:Kf):List AV:=[.sl (f.params.map eI),.int .i64 f.result,.int .i64 f.body.op,.int .i64 f.body.num,.sl (f.body.kids.map jx)]
structure Vh (c:Bw):Prop where
 fields:F7 Mm c.fields
structure TV (d:AP):Prop where
 from_:Mm d.from_
 to:Mm d.to
 cons:F7 Vh d.cons
end RC
namespace RC
open Go Go.Abs
structure Ad where
 params:List Int
 Aq:List Int
 result:Int
 body:Block
noncomputable def Al (r:Ad):List AV:=[.sl (r.params.map eI),.sl (r.Aq.map eI),.int .i64 r.result,.sl (r.body.steps.map Ba),.int .i64 r.body.result]
structure AL where
 decls:List AP
 AF:List Ad
noncomputable def cK (p:AL):List AV:=[.sl (p.decls.map Ai),.sl (p.AF.map Al)]
end RC
namespace RC
open Go Go.Abs
theorem TJ {α:Type}{l:List α}{enc enc':α->List AV}(h :∀x,JI (enc x)=enc' x):Li (l.map enc)=l.map enc':=by
 rw[JN,wa];exact vL λx _=>h x
theorem eC (n:Int):JI (eI n)=eI n:=rfl
end RC
namespace RC
open Go Go.Abs
end RC
namespace RC
open Go Go.Abs
def DT (a:Nat)(c:Bw):List AV:=[.dv a 1 (c.fields.map eI)]
theorem ft {a:Nat}(c:Bw):JI (DT a c)=By c:=by
 simp only[DT,JI,Ry,TJ eC,By]
def BO (a b:Nat)(d:AP):List AV:=[.int .i64 d.from_,.int .i64 d.to,.dv a 1 (d.cons.map (DT b))]
theorem Gg {a b:Nat}(d:AP):JI (BO a b d)=Ai d:=by
 simp only[BO,JI,Ry,TJ ft,Ai]
end RC
namespace RC
open Go Go.Abs
noncomputable def BV (x y z:Nat)(s:Step):List AV:=
 Step.rec (motive_1:=λ_=>List AV) (motive_2:=λ_=>List (List AV)) (motive_3:=λ_=>List AV) (motive_4:=λ_=>List (List AV))
  (λo n i a _ ks=>[.int .i64 o,.int .i64 n,.int .i64 i,.dv x 1 (a.map eI),.dv y 2 ks])
  [] (λ_ _ b bs=>b::bs) (λ_ r ss=>[.dv z 5 ss,.int .i64 r]) [] (λ_ _ s ss=>s::ss) s
noncomputable def Bv (x y z:Nat)(b:Block):List AV:=[.dv z 5 (b.steps.map (BV x y z)),.int .i64 b.result]
theorem dP (x y z:Nat)(ks:List Block):
  Step.rec_1 (motive_1:=λ_=>List AV) (motive_2:=λ_=>List (List AV)) (motive_3:=λ_=>List AV) (motive_4:=λ_=>List (List AV))
  (λo n i a _ ks=>[.int .i64 o,.int .i64 n,.int .i64 i,.dv x 1 (a.map eI),.dv y 2 ks])
  [] (λ_ _ b bs=>b::bs) (λ_ r ss=>[.dv z 5 ss,.int .i64 r]) [] (λ_ _ s ss=>s::ss) ks=ks.map (Bv x y z):=by
 have key:∀ss:List Step,Step.rec_3 (motive_1:=λ_=>List AV) (motive_2:=λ_=>List (List AV)) (motive_3:=λ_=>List AV) (motive_4:=λ_=>List (List AV))
  (λo n i a _ ks=>[.int .i64 o,.int .i64 n,.int .i64 i,.dv x 1 (a.map eI),.dv y 2 ks])
  [] (λ_ _ b bs=>b::bs) (λ_ r ss=>[.dv z 5 ss,.int .i64 r]) [] (λ_ _ s ss=>s::ss) ss=ss.map (BV x y z):=by
  intro ss
  induction ss with
  | nil=>rfl
  | cons s ss ih=>exact vI (BV x y z s::·) ih
 induction ks with
 | nil=>rfl
 | cons b ks ih=>
  obtain⟨ss,r⟩:=b;exact (vI (·::_) (vI (λx=>[AV.dv z 5 x,AV.int .i64 r]) (key ss))).trans (vI (Bv x y z ⟨ss,r⟩::·) ih)
theorem CV {x y z:Nat}(s:Step):BV x y z s=[.int .i64 s.op,.int .i64 s.num,.int .i64 s.BF,.dv x 1 (s.args.map eI),.dv y 2 (s.kids.map (Bv x y z))]:=by
 obtain⟨o,n,i,a,k⟩:=s;exact vI (λq=>[AV.int .i64 o,.int .i64 n,.int .i64 i,.dv x 1 (a.map eI),.dv y 2 q]) (dP x y z k)
theorem AN {x y z:Nat}(s:Step):(BV x y z s).all FI=true:=by rw[CV];rfl
theorem Le {x y z:Nat}(s:Step):(BV x y z s).all S7=true:=by rw[CV];rfl
theorem gX {x y z:Nat}(s:Step):(BV x y z s).length=5:=by rw[CV];rfl
mutual
theorem Xk {x y z:Nat}:∀s:Step,JI (BV x y z s)=Ba s
 | .mk o n i a k=>by
  rw[CV,CE];simp only[JI,Ry,Step.op,Step.num,Step.BF,Step.args,Step.kids,TJ eC,Ud k]
theorem Ud {x y z:Nat}:∀l:List (GX Step),Li (l.map (Bv x y z))=l.map BS
 | []=>rfl
 | b::l=>by simp only[vK,Li,dp b,Ud l]
theorem dp {x y z:Nat}:∀b:GX Step,JI (Bv x y z b)=BS b
 | ⟨ss,r⟩=>by
  show JI [.dv z 5 (ss.map (BV x y z)),.int .i64 r]=[.sl (ss.map Ba),.int .i64 r]
  simp only[JI,Ry,WQ ss]
theorem WQ {x y z:Nat}:∀l:List Step,Li (l.map (BV x y z))=l.map Ba
 | []=>rfl
 | s::l=>by simp only[vK,Li,Xk s,WQ l]
end
noncomputable def BD (a b x y z:Nat)(r:Ad):List AV:=[.dv a 1 (r.params.map eI),.dv b 1 (r.Aq.map eI),.int .i64 r.result,.dv z 5 (r.body.steps.map (BV x y z)),.int .i64 r.body.result]
theorem Ed {a b x y z:Nat}(r:Ad):JI (BD a b x y z r)=Al r:=by
 simp only[BD,JI,Ry,TJ eC,TJ Xk,Al]
end RC
namespace RC
def I8 (s0:List Int):Option (List Int):=if s0.length<4611686018427387904 then some (s0.mergeSort λx y=>decide (x<=y)) else none
def Mc (s0:List Int):Option (List Int):=some (Go.Lib.compact s0)
end RC
