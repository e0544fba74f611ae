import Derived.Test.YtihdgoiebmfapaaGreatGAbsXToAbsZN
import Derived.Test.YtihdgoiebmfapaaGreatAbsQ
import Derived.Lib.SlicesCompact
namespace Go.Abs
open Go
section
variable {P : Program} {k : Nat} {ops sB : Array Oper} {Q : Exit -> St -> Prop} {N f f' n : Nat} {l l' : Array Bool} {s s' : St} {A : Nat -> Array Bool -> St -> Prop} {L : List (Nat × AV)} {st : List Row} {e : Nat -> AV} {ds : List (Option Tmp)} {t : Tmp} {op : Op} {ty : TypeId} {ps : String} {ed : Array Edge} {v : AV} {o : Oper}
theorem xw (hA :∀f l s,A f l s↔AX P k ops Q N f l s)(h:A f l s')(hw:Wk k s s')(hl:l=l':=by kernel_rfl)(hn:s.n=N:=by exact rfl):AX P k ops Q N f l' s:=Bf hw (CO hl ((hA _ _ _).1 h)) hn
theorem yw (hA :∀f l s,A f l s↔AY P k ops Q N f l s)(h:A f l s')(hw:Wk k s s')(hl:l=l':=by kernel_rfl)(hn:s.n=N:=by exact rfl):AY P k ops Q N f l' s:=Ju hw (Mr hl ((hA _ _ _).1 h)) hn
theorem xt (hA :∀f l s,A f l s↔AX P k ops Q N f l s)(h:A f l ⟨n,Aa L,st⟩)(hw:Rb e L=Rh L:=by exact rfl)(hl:l=l':=by kernel_rfl)(hn:n=N:=by exact rfl):AX P k ops Q N f l' ⟨n,e,st⟩:=xw hA h (AK hw) hl hn
theorem Z3 (hA :∀f l s,A f l s↔AY P k ops Q N f l s)(h:A f l ⟨n,Aa L,st⟩)(hw:Rb e L=Rh L:=by exact rfl)(hl:l=l':=by kernel_rfl)(hn:n=N:=by exact rfl):AY P k ops Q N f l' ⟨n,e,st⟩:=yw hA h (AK hw) hl hn
theorem Mf (hA :∀f l s,A f l s↔AX P k ops Q N f l s)(h:A f l s')(hw:Wk k s s')(hl:l=l':=by kernel_rfl)(hn:s.n=N:=by exact rfl):AO P k sB (λe s'=>e=.normal/\AX P k ops Q N f l' s') ds [] s:=AF ⟨rfl,xw hA h hw hl hn⟩
theorem X8 (hA :∀f l s,A f l s↔AY P k ops Q N f l s)(h:A f l s')(hw:Wk k s s')(hl:l=l':=by kernel_rfl)(hn:s.n=N:=by exact rfl):AO P k sB (λe s'=>e=.normal/\AY P k ops Q N f l' s') ds [] s:=AF ⟨rfl,yw hA h hw hl hn⟩
theorem xd (hA :∀f l s,A f l s↔AX P k ops Q N f l s)(h:A f l ⟨n,Aa L,st⟩)(hw:Rb e L=Rh L:=by exact rfl)(hl:l=l':=by kernel_rfl)(hn:n=N:=by exact rfl):AO P k sB (λe s'=>e=.normal/\AX P k ops Q N f l' s') ds [] ⟨n,e,st⟩:=AF ⟨rfl,xt hA h hw hl hn⟩
theorem yd (hA :∀f l s,A f l s↔AY P k ops Q N f l s)(h:A f l ⟨n,Aa L,st⟩)(hw:Rb e L=Rh L:=by exact rfl)(hl:l=l':=by kernel_rfl)(hn:n=N:=by exact rfl):AO P k sB (λe s'=>e=.normal/\AY P k ops Q N f l' s') ds [] ⟨n,e,st⟩:=AF ⟨rfl,Z3 hA h hw hl hn⟩
theorem xo (i:Nat)(h:AO P k (ops.extract 0 (i+1)) (λe s'=>e=.normal/\AX P k ops Q N f (l.setIfInBounds i true) s') ((ops.toList.take i).map (·.dst)) [o] s)(ho:ops[i]?=some o:=by exact rfl)(hg:NN o i=true:=by exact rfl)(hd:(ops.toList.all λo=>DM s.n o.dst)=true:=by rfl):Ia P k ops Q N f l s i:=Ia.of ho hg hd h
theorem yo (i:Nat)(h:AO P k (ops.extract 0 (i+1)) (λe s'=>e=.normal/\AY P k ops Q N f (l.setIfInBounds i true) s') ((ops.toList.take i).map (·.dst)) [o] s)(ho:ops[i]?=some o:=by exact rfl)(hg:NN o i=true:=by exact rfl)(hd:(ops.toList.all λo=>DM s.n o.dst)=true:=by rfl):XY P k ops Q N f l s i:=XY.of ho hg hd h
theorem xq {i:Nat}(T:KV P)(hA :∀f l s,A f l s↔AX P k ops Q N f l s)(h:A f l' ⟨n,Aa L,st⟩)(ho:ops[i]?=some ⟨some t,op,ty,ps,ed,none⟩:=by exact rfl)(hd:(ops.toList.all λo=>DM n o.dst)=true:=by rfl)
  (hq:qL T ⟨n,e,st⟩ op=some v:=by exact rfl) (hw:Rb (Em e t v) L=Rh L:=by exact rfl) (hl:l'=l.setIfInBounds i true:=by kernel_rfl) (hn:n=N:=by exact rfl):Ia P k ops Q N f l ⟨n,e,st⟩ i:=Ia.of ho rfl hd (zq T hq (xd hA h hw hl hn))
theorem YR {i:Nat}(T:KV P)(hA :∀f l s,A f l s↔AY P k ops Q N f l s)(h:A f l' ⟨n,Aa L,st⟩)(ho:ops[i]?=some ⟨some t,op,ty,ps,ed,none⟩:=by exact rfl)(hd:(ops.toList.all λo=>DM n o.dst)=true:=by rfl)
  (hq:qL T ⟨n,e,st⟩ op=some v:=by exact rfl) (hw:Rb (Em e t v) L=Rh L:=by exact rfl) (hl:l'=l.setIfInBounds i true:=by kernel_rfl) (hn:n=N:=by exact rfl):XY P k ops Q N f l ⟨n,e,st⟩ i:=XY.of ho rfl hd (zq T hq (yd hA h hw hl hn))
theorem xa (rs:List Nat)(h:ZU P k ops Q N f l s rs)(hr:Region.ready .any ops l=rs:=by kernel_rfl)(lv:rs≠[]:=by decide)(hn:s.n=N:=by exact rfl):AX P k ops Q N (f+1) l s:=Ep rs hn hr lv h
theorem ya (rs:List Nat)(h:Z1 P k ops Q N f l s rs)(hr:Region.ready .any ops l=rs:=by kernel_rfl)(lv:rs≠[]:=by decide)(hn:s.n=N:=by exact rfl):AY P k ops Q N (f+1) l s:=AY.all rs hn hr lv h
theorem rt {Q:Exit->St->Prop}{q:St->Prop}(L:List (Nat×AV))(h:Rb e L=Rh L:=by exact rfl)(hq:Q .ret ⟨n,e,st⟩ =∃a,Wk k ⟨n,e,st⟩ a/\q a:=by exact rfl)(g:q ⟨n,Aa L,st⟩:=by exact And.intro rfl rfl):AW P k .ret Q ⟨n,e,st⟩:=Ap (hq▸⟨_,AK h,g⟩)
theorem rd {Q:Exit->St->Prop}{q:St->Prop}(L:List (Nat×AV))(h:Rb (λt=>Jb [] (e t)) L=Rh L:=by exact rfl)(hq:Q .ret ⟨n,e,st⟩ =∃a,Wk 0 ⟨n,e,st⟩ a/\q a:=by exact rfl)(g:q ⟨n,Aa L,[]⟩:=by exact And.intro rfl rfl):AW P 0 .ret Q ⟨n,e,st⟩:=Ap (hq▸⟨_,Bj L h,g⟩)
end
end Go.Abs
namespace RC
open Go Go.Abs
structure Cell where
 count:Int
 tag:Int
 fields:List Int
def eI (n:Int):List AV:=[.int .i64 n]
def Ex (n:Int):List AV:=[.int .u8 n]
def eB (b:Bool):List AV:=[.bool b]
def eS {α:Type}(e:α->List AV)(l:List α):List AV:=[.sl (l.map e)]
def H6 (n:Int):Prop:=-9223372036854775808<=n/\n<=9223372036854775807
def U8 (n:Int):Prop:=0<=n/\n<=255
def IP {α:Type}(T7:α->Prop)(l:List α):Prop:=(∀x∈l,T7 x)/\l.length<=9223372036854775807
structure WC (c:Cell):Prop where
 count:H6 c.count
 tag:H6 c.tag
 Lw:IP H6 c.fields
theorem WC.len {c:Cell}(h:WC c):c.fields.length<=9223372036854775807:=h.Lw.2
end RC
namespace RC
open Go Go.Abs
structure Kq (S:Type) where
 steps:List S
 result:Int
inductive Step where
 | mk (op num Y5:Int) (args:List Int) (kids:List (Kq Step))
abbrev Block:=Kq Step
@[reducible] def Block.mk (steps:List Step)(result:Int):Block:=⟨steps,result⟩
def Step.op:Step->Int|.mk o _ _ _ _=>o
def Step.num:Step->Int|.mk _ n _ _ _=>n
def Step.Y5:Step->Int|.mk _ _ i _ _=>i
def Step.args:Step->List Int|.mk _ _ _ a _=>a
def Step.kids:Step->List Block|.mk _ _ _ _ k=>k
noncomputable def WY (s:Step):List AV:=
 Step.rec (motive_1:=λ_=>List AV) (motive_2:=λ_=>List (List AV)) (motive_3:=λ_=>List AV) (motive_4:=λ_=>List (List AV))
  (λo n i a _ ks=>[.int .i64 o,.int .i64 n,.int .i64 i,.sl (a.map eI),.sl ks])
  [] (λ_ _ b bs=>b::bs) (λ_ r ss=>[.sl ss,.int .i64 r]) [] (λ_ _ s ss=>s::ss) s
noncomputable def Wj (b:Block):List AV:=[.sl (b.steps.map WY),.int .i64 b.result]
theorem XA (ks:List Block):
  Step.rec_1 (motive_1:=λ_=>List AV) (motive_2:=λ_=>List (List AV)) (motive_3:=λ_=>List AV) (motive_4:=λ_=>List (List AV))
  (λo n i a _ ks=>[.int .i64 o,.int .i64 n,.int .i64 i,.sl (a.map eI),.sl ks])
  [] (λ_ _ b bs=>b::bs) (λ_ r ss=>[.sl ss,.int .i64 r]) [] (λ_ _ s ss=>s::ss) ks=ks.map Wj:=by
 have key:∀ss:List Step,Step.rec_3 (motive_1:=λ_=>List AV) (motive_2:=λ_=>List (List AV)) (motive_3:=λ_=>List AV) (motive_4:=λ_=>List (List AV))
  (λo n i a _ ks=>[.int .i64 o,.int .i64 n,.int .i64 i,.sl (a.map eI),.sl ks])
  [] (λ_ _ b bs=>b::bs) (λ_ r ss=>[.sl ss,.int .i64 r]) [] (λ_ _ s ss=>s::ss) ss=ss.map WY:=by
  intro ss
  induction ss with
  | nil=>rfl
  | cons s ss ih=>exact iE (WY s::·) ih
 induction ks with
 | nil=>rfl
 | cons b ks ih=>
  obtain⟨ss,r⟩:=b;exact (iE (·::_) (iE (λx=>[AV.sl x,AV.int .i64 r]) (key ss))).trans (iE (Wj ⟨ss,r⟩::·) ih)
theorem eO (s:Step):WY s=[.int .i64 s.op,.int .i64 s.num,.int .i64 s.Y5,.sl (s.args.map eI),.sl (s.kids.map Wj)]:=by
 obtain⟨o,n,i,a,k⟩:=s;exact iE (λx=>[AV.int .i64 o,.int .i64 n,.int .i64 i,.sl (a.map eI),.sl x]) (XA k)
end RC
namespace RC
open Go Go.Abs
structure Dd where
 fields:List Int
structure AN where
 from_:Int
 to:Int
 cons:List Dd
structure ZR where
 op:Int
 dst:Int
 num:Int
 Y5:Int
 args:List Int
 jumps:List Int
structure aO where
 params:List Int
 Fp:List Int
 result:Int
 fY:Int
 code:List ZR
structure bw where
 decls:List AN
 procs:List aO
structure Bo where
 params:List Int
 Fp:List Int
 result:Int
structure BL where
 decls:List AN
 funcs:List Bo
inductive AG where
 | mk (op num:Int) (kids:List AG)
def AG.op:AG->Int|.mk o _ _=>o
def AG.num:AG->Int|.mk _ n _=>n
def AG.kids:AG->List AG|.mk _ _ k=>k
theorem Nm (s:AG):s=AG.mk s.op s.num s.kids:=by cases s;rfl
structure Ad where
 params:List Int
 result:Int
 body:AG
structure AP where
 decls:List AN
 funcs:List Ad
def Bv (c:Dd):List AV:=[.sl (c.fields.map eI)]
def Ai (d:AN):List AV:=[.int .i64 d.from_,.int .i64 d.to,.sl (d.cons.map Bv)]
def Bw (p:Bo):List AV:=[.sl (p.params.map eI),.sl (p.Fp.map eI),.int .i64 p.result]
def F7 (x:BL):List AV:=[.sl (x.decls.map Ai),.sl (x.funcs.map Bw)]
noncomputable def Az (s:AG):List AV:=
 AG.rec (motive_1:=λ_=>List AV) (motive_2:=λ_=>List (List AV)) (λo n _ ks=>[.int .i64 o,.int .i64 n,.sl ks]) [] (λ_ _ b bs=>b::bs) s
theorem V7 (ks:List AG):
  AG.rec_1 (motive_1:=λ_=>List AV) (motive_2:=λ_=>List (List AV)) (λo n _ ks=>[.int .i64 o,.int .i64 n,.sl ks]) [] (λ_ _ b bs=>b::bs) ks=ks.map Az:=by
 induction ks with
 | nil=>rfl
 | cons b ks ih=>exact iE (Az b::·) ih
theorem Al (s:AG):Az s=[.int .i64 s.op,.int .i64 s.num,.sl (s.kids.map Az)]:=by
 obtain⟨o,n,k⟩:=s;exact iE (λx=>[AV.int .i64 o,.int .i64 n,.sl x]) (V7 k)
theorem Ab (s:AG):(Az s).all simple=true:=by rw[Al];rfl
theorem DI (s:AG):(Az s).length=3:=by rw[Al];rfl
noncomputable def BO (f:Ad):List AV:=[.sl (f.params.map eI),.int .i64 f.result,.int .i64 f.body.op,.int .i64 f.body.num,.sl (f.body.kids.map Az)]
noncomputable def dH (x:AP):List AV:=[.sl (x.decls.map Ai),.sl (x.funcs.map BO)]
structure cS (c:Dd):Prop where
 fields:IP H6 c.fields
structure Li (d:AN):Prop where
 from_:H6 d.from_
 to:H6 d.to
 cons:IP cS d.cons
end RC
namespace RC
open Go Go.Abs
inductive Aq:AG->Prop where
 | mk {e:AG}:H6 e.op->H6 e.num->e.kids.length<=9223372036854775807->(∀k∈e.kids,Aq k)->Aq e
theorem Aq.op {e:AG}(h:Aq e):H6 e.op:=by cases h;assumption
theorem Aq.num {e:AG}(h:Aq e):H6 e.num:=by cases h;assumption
theorem Aq.Kt {e:AG}(h:Aq e):e.kids.length<=9223372036854775807:=by cases h;assumption
theorem Aq.kids {e:AG}(h:Aq e):∀k∈e.kids,Aq k:=by cases h;assumption
theorem dD (a0:List Int)(a1:Int)(a2:AG):BO ⟨a0,a1,a2⟩=eS eI a0++(eI a1++Az a2):=by rw[Al];rfl
structure UZ (f:Ad):Prop where
 params:IP H6 f.params
 result:H6 f.result
 body:Aq f.body
structure XW (p:AP):Prop where
 decls:IP Li p.decls
 funcs:IP UZ p.funcs
structure Zw where
 params:List Int
 Fp:List Int
 result:Int
 body:Block
structure H8 where
 decls:List AN
 eM:List Zw
end RC
namespace RC
open Go Go.Abs
theorem Q6 {α:Type}{l:List α}{enc nG:α->List AV}(h :∀x,Hr (enc x)=nG x):J0 (l.map enc)=l.map nG:=by
 rw[HY,iP];exact gO λx _=>h x
theorem ZK (n:Int):Hr (eI n)=eI n:=rfl
end RC
namespace RC
open Go Go.Abs
end RC
namespace RC
open Go Go.Abs
def G4 (a:Nat)(c:Dd):List AV:=[.dv a 1 (c.fields.map eI)]
theorem Wx {a:Nat}(c:Dd):Hr (G4 a c)=Bv c:=by
 simp only[G4,Hr,OJ,Q6 ZK,Bv]
def BU (a b:Nat)(d:AN):List AV:=[.int .i64 d.from_,.int .i64 d.to,.dv a 1 (d.cons.map (G4 b))]
theorem Wd {a b:Nat}(d:AN):Hr (BU a b d)=Ai d:=by
 simp only[BU,Hr,OJ,Q6 Wx,Ai]
end RC
namespace RC
open Go Go.Abs
noncomputable def BZ (a:Nat)(s:AG):List AV:=
 AG.rec (motive_1:=λ_=>List AV) (motive_2:=λ_=>List (List AV)) (λo n _ ks=>[.int .i64 o,.int .i64 n,.dv a 3 ks]) [] (λ_ _ b bs=>b::bs) s
theorem U2 (a:Nat)(ks:List AG):
  AG.rec_1 (motive_1:=λ_=>List AV) (motive_2:=λ_=>List (List AV)) (λo n _ ks=>[.int .i64 o,.int .i64 n,.dv a 3 ks]) [] (λ_ _ b bs=>b::bs) ks=ks.map (BZ a):=by
 induction ks with
 | nil=>rfl
 | cons b ks ih=>exact iE (BZ a b::·) ih
theorem E0 {a:Nat}(s:AG):BZ a s=[.int .i64 s.op,.int .i64 s.num,.dv a 3 (s.kids.map (BZ a))]:=by
 obtain⟨o,n,k⟩:=s;exact iE (λx=>[AV.int .i64 o,.int .i64 n,.dv a 3 x]) (U2 a k)
theorem An {a:Nat}(s:AG):(BZ a s).all ES=true:=by rw[E0];rfl
theorem Gg {a:Nat}(s:AG):(BZ a s).all Om=true:=by rw[E0];rfl
mutual
theorem NQ {a:Nat}:∀s:AG,Hr (BZ a s)=Az s
 | .mk o n k=>by
  rw[E0,Al];simp only[Hr,OJ,AG.op,AG.num,AG.kids,P7 k]
theorem P7 {a:Nat}:∀l:List AG,J0 (l.map (BZ a))=l.map Az
 | []=>rfl
 | e::l=>by simp only[gP,J0,NQ e,P7 l]
end
noncomputable def DB (a b:Nat)(f:Ad):List AV:=[.dv a 1 (f.params.map eI),.int .i64 f.result,.int .i64 f.body.op,.int .i64 f.body.num,.dv b 3 (f.body.kids.map (BZ b))]
theorem Wo {a b:Nat}(f:Ad):Hr (DB a b f)=BO f:=by
 simp only[DB,Hr,OJ,Q6 ZK,Q6 NQ,BO]
end RC
namespace RC
end RC
