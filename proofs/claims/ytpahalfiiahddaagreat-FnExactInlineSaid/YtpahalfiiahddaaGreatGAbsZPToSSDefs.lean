import Derived.Test.YtpahalfiiahddaaGreatGAbsXToAbsZN
import Derived.Test.YtpahalfiiahddaaGreatAbsQ
import Derived.Test.YtpahalfiiahddaaGreatAbsV
import Derived.Test.YtpahalfiiahddaaGreatAbsW
import Derived.Lib.SlicesCompact

namespace Go.Abs
open Go
section
variable {P : Program} {k : Nat} {ops ops' : Array Oper} {Q : Exit → St → Prop} {N f f' n : Nat} {l l' : Array Bool} {s s' : St} {A : Nat → Array Bool → St → Prop} {L : List (Nat × AV)} {st : List Row} {e : Nat → AV} {ds : List (Option Tmp)} {t : Tmp} {op : Op} {ty : TypeId} {ps : String} {ed : Array Edge} {v : AV} {o : Oper}
theorem xw (hA :∀f l s,A f l s↔AX P k ops Q N f l s) (h:A f l s') (hw:Wk k s s') (hl:l=l':=by kernel_rfl) (hn:s.n=N:=by exact rfl):AX P k ops Q N f l' s:=An hw (Ax hl ((hA _ _ _).1 h)) hn
theorem yw (hA :∀f l s,A f l s↔AY P k ops Q N f l s) (h:A f l s') (hw:Wk k s s') (hl:l=l':=by kernel_rfl) (hn:s.n=N:=by exact rfl):AY P k ops Q N f l' s:=QX hw (Vc hl ((hA _ _ _).1 h)) hn
theorem xt (hA :∀f l s,A f l s↔AX P k ops Q N f l s) (h:A f l ⟨n,AL L,st⟩) (hw:Tm e L=UH L:=by exact rfl) (hl:l=l':=by kernel_rfl) (hn:n=N:=by exact rfl):AX P k ops Q N f l' ⟨n,e,st⟩:=xw hA h (AH hw) hl hn
theorem fT (hA :∀f l s,A f l s↔AY P k ops Q N f l s) (h:A f l ⟨n,AL L,st⟩) (hw:Tm e L=UH L:=by exact rfl) (hl:l=l':=by kernel_rfl) (hn:n=N:=by exact rfl):AY P k ops Q N f l' ⟨n,e,st⟩:=yw hA h (AH hw) hl hn
theorem C4 (hA :∀f l s,A f l s↔AX P k ops Q N f l s) (h:A f l s') (hw:Wk k s s') (hl:l=l':=by kernel_rfl) (hn:s.n=N:=by exact rfl):AO P k ops' (fun e s'=>e=.normal∧AX P k ops Q N f l' s') ds [] s:=AE ⟨rfl,xw hA h hw hl hn⟩
theorem P9 (hA :∀f l s,A f l s↔AY P k ops Q N f l s) (h:A f l s') (hw:Wk k s s') (hl:l=l':=by kernel_rfl) (hn:s.n=N:=by exact rfl):AO P k ops' (fun e s'=>e=.normal∧AY P k ops Q N f l' s') ds [] s:=AE ⟨rfl,yw hA h hw hl hn⟩
theorem xd (hA :∀f l s,A f l s↔AX P k ops Q N f l s) (h:A f l ⟨n,AL L,st⟩) (hw:Tm e L=UH L:=by exact rfl) (hl:l=l':=by kernel_rfl) (hn:n=N:=by exact rfl):AO P k ops' (fun e s'=>e=.normal∧AX P k ops Q N f l' s') ds [] ⟨n,e,st⟩:=AE ⟨rfl,xt hA h hw hl hn⟩
theorem yd (hA :∀f l s,A f l s↔AY P k ops Q N f l s) (h:A f l ⟨n,AL L,st⟩) (hw:Tm e L=UH L:=by exact rfl) (hl:l=l':=by kernel_rfl) (hn:n=N:=by exact rfl):AO P k ops' (fun e s'=>e=.normal∧AY P k ops Q N f l' s') ds [] ⟨n,e,st⟩:=AE ⟨rfl,fT hA h hw hl hn⟩
theorem xo (i:Nat) (h:AO P k (ops.extract 0 (i+1)) (fun e s'=>e=.normal∧AX P k ops Q N f (l.setIfInBounds i true) s') ((ops.toList.take i).map (·.dst)) [o] s) (ho:ops[i]?=some o:=by exact rfl) (hg:L3 o i=true:=by exact rfl) (hd:(ops.toList.all fun o=>Cu s.n o.dst)=true:=by rfl):Da P k ops Q N f l s i:=Da.of ho hg hd h
theorem yo (i:Nat) (h:AO P k (ops.extract 0 (i+1)) (fun e s'=>e=.normal∧AY P k ops Q N f (l.setIfInBounds i true) s') ((ops.toList.take i).map (·.dst)) [o] s) (ho:ops[i]?=some o:=by exact rfl) (hg:L3 o i=true:=by exact rfl) (hd:(ops.toList.all fun o=>Cu s.n o.dst)=true:=by rfl):Xg P k ops Q N f l s i:=Xg.of ho hg hd h
theorem xq {i:Nat} (T:Kg P) (hA :∀f l s,A f l s↔AX P k ops Q N f l s) (h:A f l' ⟨n,AL L,st⟩) (ho:ops[i]?=some ⟨some t,op,ty,ps,ed,none⟩:=by exact rfl) (hd:(ops.toList.all fun o=>Cu n o.dst)=true:=by rfl)
  (hq:qL T ⟨n,e,st⟩ op=some v:=by exact rfl) (hw:Tm (Dh e t v) L=UH L:=by exact rfl) (hl:l'=l.setIfInBounds i true:=by kernel_rfl) (hn:n=N:=by exact rfl):Da P k ops Q N f l ⟨n,e,st⟩ i:=Da.of ho rfl hd (zq T hq (xd hA h hw hl hn))
theorem CH {i:Nat} (T:Kg P) (hA :∀f l s,A f l s↔AY P k ops Q N f l s) (h:A f l' ⟨n,AL L,st⟩) (ho:ops[i]?=some ⟨some t,op,ty,ps,ed,none⟩:=by exact rfl) (hd:(ops.toList.all fun o=>Cu n o.dst)=true:=by rfl)
  (hq:qL T ⟨n,e,st⟩ op=some v:=by exact rfl) (hw:Tm (Dh e t v) L=UH L:=by exact rfl) (hl:l'=l.setIfInBounds i true:=by kernel_rfl) (hn:n=N:=by exact rfl):Xg P k ops Q N f l ⟨n,e,st⟩ i:=Xg.of ho rfl hd (zq T hq (yd hA h hw hl hn))
theorem xa (rs:List Nat) (h:aN P k ops Q N f l s rs) (hr:Region.ready .any ops l=rs:=by kernel_rfl) (hne:rs≠[]:=by decide) (hn:s.n=N:=by exact rfl):AX P k ops Q N (f+1) l s:=DM rs hn hr hne h
theorem ya (rs:List Nat) (h:Z5 P k ops Q N f l s rs) (hr:Region.ready .any ops l=rs:=by kernel_rfl) (hne:rs≠[]:=by decide) (hn:s.n=N:=by exact rfl):AY P k ops Q N (f+1) l s:=AY.all rs hn hr hne h
end
end Go.Abs



namespace RC
open Go Go.Abs
structure Cell where
 count:Int
 tag:Int
 fields:List Int
def eI (n:Int):List AV:=[.int .i64 n]
def YC (n:Int):List AV:=[.int .u8 n]
def eB (b:Bool):List AV:=[.bool b]
def eS {α:Type} (e:α→List AV) (l:List α):List AV:=[.sl (l.map e)]
def GL (n:Int):Prop:=-9223372036854775808≤n∧n≤9223372036854775807
def U8 (n:Int):Prop:=0≤n∧n≤255
def Es {α:Type} (good:α→Prop) (l:List α):Prop:=(∀x∈l,good x)∧l.length≤9223372036854775807
structure Wg (c:Cell):Prop where
 count:GL c.count
 tag:GL c.tag
 NK:Es GL c.fields
theorem Wg.len {c:Cell} (h:Wg c):c.fields.length≤9223372036854775807:=h.NK.2
end RC



namespace RC
open Go Go.Abs
structure KB (S:Type) where
 steps:List S
 result:Int
inductive Step where
 | mk (op num ZX:Int) (args:List Int) (kids:List (KB Step))
abbrev Block:=KB Step
@[reducible] def Block.mk (steps:List Step) (result:Int):Block:=⟨steps,result⟩
def Step.op:Step→Int | .mk o _ _ _ _=>o
def Step.num:Step→Int | .mk _ n _ _ _=>n
def Step.ZX:Step→Int | .mk _ _ i _ _=>i
def Step.args:Step→List Int | .mk _ _ _ a _=>a
def Step.kids:Step→List Block | .mk _ _ _ _ k=>k
noncomputable def Ps (s:Step):List AV:=
 Step.rec (motive_1:=fun _=>List AV) (motive_2:=fun _=>List (List AV)) (motive_3:=fun _=>List AV) (motive_4:=fun _=>List (List AV))
  (fun o n i a _ ks=>[.int .i64 o,.int .i64 n,.int .i64 i,.sl (a.map eI),.sl ks])
  [] (fun _ _ b bs=>b :: bs) (fun _ r ss=>[.sl ss,.int .i64 r]) [] (fun _ _ s ss=>s :: ss) s
noncomputable def Mk (b:Block):List AV:=[.sl (b.steps.map Ps),.int .i64 b.result]
theorem W8 (ks:List Block) :
  Step.rec_1 (motive_1:=fun _=>List AV) (motive_2:=fun _=>List (List AV)) (motive_3:=fun _=>List AV) (motive_4:=fun _=>List (List AV))
  (fun o n i a _ ks=>[.int .i64 o,.int .i64 n,.int .i64 i,.sl (a.map eI),.sl ks])
  [] (fun _ _ b bs=>b :: bs) (fun _ r ss=>[.sl ss,.int .i64 r]) [] (fun _ _ s ss=>s :: ss) ks=ks.map Mk:=by
 have key :∀ss:List Step,Step.rec_3 (motive_1:=fun _=>List AV) (motive_2:=fun _=>List (List AV)) (motive_3:=fun _=>List AV) (motive_4:=fun _=>List (List AV))
  (fun o n i a _ ks=>[.int .i64 o,.int .i64 n,.int .i64 i,.sl (a.map eI),.sl ks])
  [] (fun _ _ b bs=>b :: bs) (fun _ r ss=>[.sl ss,.int .i64 r]) [] (fun _ _ s ss=>s :: ss) ss=ss.map Ps:=by
  intro ss
  induction ss with
  | nil=>rfl
  | cons s ss ih=>exact congrArg (Ps s :: ·) ih
 induction ks with
 | nil=>rfl
 | cons b ks ih=>
  obtain⟨ss,r⟩:=b
  exact (congrArg (· :: _) (congrArg (fun x=>[AV.sl x,AV.int .i64 r]) (key ss))).trans (congrArg (Mk ⟨ss,r⟩ :: ·) ih)
theorem aI (s:Step):Ps s=[.int .i64 s.op,.int .i64 s.num,.int .i64 s.ZX,.sl (s.args.map eI),.sl (s.kids.map Mk)]:=by
 obtain⟨o,n,i,a,k⟩:=s
 exact congrArg (fun x=>[AV.int .i64 o,.int .i64 n,.int .i64 i,.sl (a.map eI),.sl x]) (W8 k)
end RC



namespace RC
open Go Go.Abs
structure BP where
 fields:List Int
structure Ab where
 from_:Int
 to:Int
 cons:List BP
structure ZY where
 op:Int
 dst:Int
 num:Int
 ZX:Int
 args:List Int
 jumps:List Int
structure al where
 params:List Int
 E4:List Int
 result:Int
 fk:Int
 code:List ZY
structure dI where
 decls:List Ab
 procs:List al
structure BI where
 params:List Int
 E4:List Int
 result:Int
structure A1 where
 decls:List Ab
 funcs:List BI
inductive AD where
 | mk (op num:Int) (kids:List AD)
def AD.op:AD→Int | .mk o _ _=>o
def AD.num:AD→Int | .mk _ n _=>n
def AD.kids:AD→List AD | .mk _ _ k=>k
theorem Hy (s:AD):s=AD.mk s.op s.num s.kids:=by cases s;rfl
structure Ah where
 params:List Int
 result:Int
 body:AD
structure AN where
 decls:List Ab
 funcs:List Ah
def BR (c:BP):List AV:=[.sl (c.fields.map eI)]
def AT (d:Ab):List AV:=[.int .i64 d.from_,.int .i64 d.to,.sl (d.cons.map BR)]
def BQ (p:BI):List AV:=[.sl (p.params.map eI),.sl (p.E4.map eI),.int .i64 p.result]
def FN (x:A1):List AV:=[.sl (x.decls.map AT),.sl (x.funcs.map BQ)]
noncomputable def A4 (s:AD):List AV:=
 AD.rec (motive_1:=fun _=>List AV) (motive_2:=fun _=>List (List AV)) (fun o n _ ks=>[.int .i64 o,.int .i64 n,.sl ks]) [] (fun _ _ b bs=>b :: bs) s
theorem Wr (ks:List AD) :
  AD.rec_1 (motive_1:=fun _=>List AV) (motive_2:=fun _=>List (List AV)) (fun o n _ ks=>[.int .i64 o,.int .i64 n,.sl ks]) [] (fun _ _ b bs=>b :: bs) ks=ks.map A4:=by
 induction ks with
 | nil=>rfl
 | cons b ks ih=>exact congrArg (A4 b :: ·) ih
theorem Aw (s:AD):A4 s=[.int .i64 s.op,.int .i64 s.num,.sl (s.kids.map A4)]:=by
 obtain⟨o,n,k⟩:=s
 exact congrArg (fun x=>[AV.int .i64 o,.int .i64 n,.sl x]) (Wr k)
theorem Co (s:AD):(A4 s).all simple=true:=by rw[Aw];rfl
theorem Ip (s:AD):(A4 s).length=3:=by rw[Aw];rfl
noncomputable def Ar (f:Ah):List AV:=[.sl (f.params.map eI),.int .i64 f.result,.int .i64 f.body.op,.int .i64 f.body.num,.sl (f.body.kids.map A4)]
noncomputable def UW (x:AN):List AV:=[.sl (x.decls.map AT),.sl (x.funcs.map Ar)]
structure QP (c:BP):Prop where
 fields:Es GL c.fields
structure Nb (d:Ab):Prop where
 from_:GL d.from_
 to:GL d.to
 cons:Es QP d.cons
end RC



namespace RC
open Go Go.Abs
inductive Bn:AD→Prop where
 | mk {e:AD}:GL e.op→GL e.num→e.kids.length≤9223372036854775807→(∀k∈e.kids,Bn k)→Bn e
theorem Bn.op {e:AD} (h:Bn e):GL e.op:=by cases h;assumption
theorem Bn.num {e:AD} (h:Bn e):GL e.num:=by cases h;assumption
theorem Bn.Il {e:AD} (h:Bn e):e.kids.length≤9223372036854775807:=by cases h;assumption
theorem Bn.kids {e:AD} (h:Bn e) :∀k∈e.kids,Bn k:=by cases h;assumption
theorem SP (a0:List Int) (a1:Int) (a2:AD):Ar ⟨a0,a1,a2⟩=eS eI a0 ++ (eI a1 ++ A4 a2):=by rw[Aw];rfl
structure MI (f:Ah):Prop where
 params:Es GL f.params
 result:GL f.result
 body:Bn f.body
structure LX (p:AN):Prop where
 decls:Es Nb p.decls
 funcs:Es MI p.funcs
structure aH where
 params:List Int
 E4:List Int
 result:Int
 body:Block
structure HC where
 decls:List Ab
 eb:List aH
end RC



namespace RC
open Go Go.Abs
theorem Qg {α:Type} {l:List α} {enc enc':α→List AV} (h :∀x,GX (enc x)=enc' x):JN (l.map enc)=l.map enc':=by
 rw[Ga,List.map_map]
 exact List.map_congr_left fun x _=>h x
theorem ZW (n:Int):GX (eI n)=eI n:=rfl
end RC



namespace RC
open Go Go.Abs
end RC



namespace RC
open Go Go.Abs
def CA (a:Nat) (c:BP):List AV:=[.dv a 1 (c.fields.map eI)]
theorem Xw {a:Nat} (c:BP):GX (CA a c)=BR c:=by
 simp only[CA,GX,NU,Qg ZW,BR]
def Ad (a b:Nat) (d:Ab):List AV:=[.int .i64 d.from_,.int .i64 d.to,.dv a 1 (d.cons.map (CA b))]
theorem FJ {a b:Nat} (d:Ab):GX (Ad a b d)=AT d:=by
 simp only[Ad,GX,NU,Qg Xw,AT]
end RC



namespace RC
open Go Go.Abs
noncomputable def Au (a:Nat) (s:AD):List AV:=
 AD.rec (motive_1:=fun _=>List AV) (motive_2:=fun _=>List (List AV)) (fun o n _ ks=>[.int .i64 o,.int .i64 n,.dv a 3 ks]) [] (fun _ _ b bs=>b :: bs) s
theorem U1 (a:Nat) (ks:List AD) :
  AD.rec_1 (motive_1:=fun _=>List AV) (motive_2:=fun _=>List (List AV)) (fun o n _ ks=>[.int .i64 o,.int .i64 n,.dv a 3 ks]) [] (fun _ _ b bs=>b :: bs) ks=ks.map (Au a):=by
 induction ks with
 | nil=>rfl
 | cons b ks ih=>exact congrArg (Au a b :: ·) ih
theorem CX {a:Nat} (s:AD):Au a s=[.int .i64 s.op,.int .i64 s.num,.dv a 3 (s.kids.map (Au a))]:=by
 obtain⟨o,n,k⟩:=s
 exact congrArg (fun x=>[AV.int .i64 o,.int .i64 n,.dv a 3 x]) (U1 a k)
theorem Ag {a:Nat} (s:AD):(Au a s).all Eg=true:=by rw[CX];rfl
theorem Dz {a:Nat} (s:AD):(Au a s).all OP=true:=by rw[CX];rfl
theorem Wt {a:Nat} (s:AD):(Au a s).length=3:=by rw[CX];rfl
mutual
theorem Kc {a:Nat} :∀s:AD,GX (Au a s)=A4 s
 | .mk o n k=>by
  rw[CX,Aw]
  simp only[GX,NU,AD.op,AD.num,AD.kids,PH k]
theorem PH {a:Nat} :∀l:List AD,JN (l.map (Au a))=l.map A4
 | []=>rfl
 | e :: l=>by simp only[List.map_cons,JN,Kc e,PH l]
end
noncomputable def A2 (a b:Nat) (f:Ah):List AV:=[.dv a 1 (f.params.map eI),.int .i64 f.result,.int .i64 f.body.op,.int .i64 f.body.num,.dv b 3 (f.body.kids.map (Au b))]
theorem FP {a b:Nat} (f:Ah):GX (A2 a b f)=Ar f:=by
 simp only[A2,GX,NU,Qg ZW,Qg Kc,Ar]
end RC


namespace RC
end RC

