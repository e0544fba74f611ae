import Derived.Test.YtihdgoiebmfapaaGreatGAbsXToAbsZN
import Derived.Test.YtihdgoiebmfapaaGreatAbsQ
import Derived.Lib.SlicesCompact
set_option linter.all false
namespace Go.Abs
open Go
section
variable {P : Program} {k : Nat} {ops sB : Array Oper} {Q : Exit -> St -> Prop} {N f f' n : Nat} {l l' : Array Bool} {s s' : St} {A : Nat -> Array Bool -> St -> Prop} {L : List (Nat × AV)} {st : List Row} {e : Nat -> AV} {ds : List (Option Tmp)} {t : Tmp} {op : Op} {ty : TypeId} {ps : String} {ed : Array Edge} {v : AV} {o : Oper}
theorem xw (hA :∀f l s,A f l s↔AX P k ops Q N f l s)(h:A f l s')(hw:Wk k s s')(hl:l=l':=by kernel_rfl)(hn:s.n=N:=by exact rfl):AX P k ops Q N f l' s:=Bf hw (CO hl ((hA _ _ _).1 h)) hn
theorem yw (hA :∀f l s,A f l s↔AY P k ops Q N f l s)(h:A f l s')(hw:Wk k s s')(hl:l=l':=by kernel_rfl)(hn:s.n=N:=by exact rfl):AY P k ops Q N f l' s:=J1 hw (NF hl ((hA _ _ _).1 h)) hn
theorem xt (hA :∀f l s,A f l s↔AX P k ops Q N f l s)(h:A f l ⟨n,Aa L,st⟩)(hw:RX e L=Rk L:=by exact rfl)(hl:l=l':=by kernel_rfl)(hn:n=N:=by exact rfl):AX P k ops Q N f l' ⟨n,e,st⟩:=xw hA h (AK hw) hl hn
theorem aD (hA :∀f l s,A f l s↔AY P k ops Q N f l s)(h:A f l ⟨n,Aa L,st⟩)(hw:RX e L=Rk L:=by exact rfl)(hl:l=l':=by kernel_rfl)(hn:n=N:=by exact rfl):AY P k ops Q N f l' ⟨n,e,st⟩:=yw hA h (AK hw) hl hn
theorem MZ (hA :∀f l s,A f l s↔AX P k ops Q N f l s)(h:A f l s')(hw:Wk k s s')(hl:l=l':=by kernel_rfl)(hn:s.n=N:=by exact rfl):AO P k sB (λe s'=>e=.normal/\AX P k ops Q N f l' s') ds [] s:=AF ⟨rfl,xw hA h hw hl hn⟩
theorem Xy (hA :∀f l s,A f l s↔AY P k ops Q N f l s)(h:A f l s')(hw:Wk k s s')(hl:l=l':=by kernel_rfl)(hn:s.n=N:=by exact rfl):AO P k sB (λe s'=>e=.normal/\AY P k ops Q N f l' s') ds [] s:=AF ⟨rfl,yw hA h hw hl hn⟩
theorem xd (hA :∀f l s,A f l s↔AX P k ops Q N f l s)(h:A f l ⟨n,Aa L,st⟩)(hw:RX e L=Rk L:=by exact rfl)(hl:l=l':=by kernel_rfl)(hn:n=N:=by exact rfl):AO P k sB (λe s'=>e=.normal/\AX P k ops Q N f l' s') ds [] ⟨n,e,st⟩:=AF ⟨rfl,xt hA h hw hl hn⟩
theorem yd (hA :∀f l s,A f l s↔AY P k ops Q N f l s)(h:A f l ⟨n,Aa L,st⟩)(hw:RX e L=Rk L:=by exact rfl)(hl:l=l':=by kernel_rfl)(hn:n=N:=by exact rfl):AO P k sB (λe s'=>e=.normal/\AY P k ops Q N f l' s') ds [] ⟨n,e,st⟩:=AF ⟨rfl,aD hA h hw hl hn⟩
theorem xo (i:Nat)(h:AO P k (ops.extract 0 (i+1)) (λe s'=>e=.normal/\AX P k ops Q N f (l.setIfInBounds i true) s') ((ops.toList.take i).map (·.dst)) [o] s)(ho:ops[i]?=some o:=by exact rfl)(hg:Ms o i=true:=by exact rfl)(hd:(ops.toList.all λo=>DM s.n o.dst)=true:=by rfl):IZ P k ops Q N f l s i:=IZ.of ho hg hd h
theorem yo (i:Nat)(h:AO P k (ops.extract 0 (i+1)) (λe s'=>e=.normal/\AY P k ops Q N f (l.setIfInBounds i true) s') ((ops.toList.take i).map (·.dst)) [o] s)(ho:ops[i]?=some o:=by exact rfl)(hg:Ms o i=true:=by exact rfl)(hd:(ops.toList.all λo=>DM s.n o.dst)=true:=by rfl):XG P k ops Q N f l s i:=XG.of ho hg hd h
theorem xq {i:Nat}(T:KY P)(hA :∀f l s,A f l s↔AX P k ops Q N f l s)(h:A f l' ⟨n,Aa L,st⟩)(ho:ops[i]?=some ⟨some t,op,ty,ps,ed,none⟩:=by exact rfl)(hd:(ops.toList.all λo=>DM n o.dst)=true:=by rfl)
  (hq:qL T ⟨n,e,st⟩ op=some v:=by exact rfl) (hw:RX (Em e t v) L=Rk L:=by exact rfl) (hl:l'=l.setIfInBounds i true:=by kernel_rfl) (hn:n=N:=by exact rfl):IZ P k ops Q N f l ⟨n,e,st⟩ i:=IZ.of ho rfl hd (zq T hq (xd hA h hw hl hn))
theorem Yw {i:Nat}(T:KY P)(hA :∀f l s,A f l s↔AY P k ops Q N f l s)(h:A f l' ⟨n,Aa L,st⟩)(ho:ops[i]?=some ⟨some t,op,ty,ps,ed,none⟩:=by exact rfl)(hd:(ops.toList.all λo=>DM n o.dst)=true:=by rfl)
  (hq:qL T ⟨n,e,st⟩ op=some v:=by exact rfl) (hw:RX (Em e t v) L=Rk L:=by exact rfl) (hl:l'=l.setIfInBounds i true:=by kernel_rfl) (hn:n=N:=by exact rfl):XG P k ops Q N f l ⟨n,e,st⟩ i:=XG.of ho rfl hd (zq T hq (yd hA h hw hl hn))
theorem xa (rs:List Nat)(h:Zm P k ops Q N f l s rs)(hr:Region.ready .any ops l=rs:=by kernel_rfl)(lv:rs≠[]:=by decide)(hn:s.n=N:=by exact rfl):AX P k ops Q N (f+1) l s:=Er rs hn hr lv h
theorem ya (rs:List Nat)(h:Zx P k ops Q N f l s rs)(hr:Region.ready .any ops l=rs:=by kernel_rfl)(lv:rs≠[]:=by decide)(hn:s.n=N:=by exact rfl):AY P k ops Q N (f+1) l s:=AY.all rs hn hr lv h
theorem rt {Q:Exit->St->Prop}{q:St->Prop}(L:List (Nat×AV))(h:RX e L=Rk L:=by exact rfl)(hq:Q .ret ⟨n,e,st⟩ =∃a,Wk k ⟨n,e,st⟩ a/\q a:=by exact rfl)(g:q ⟨n,Aa L,st⟩:=by exact And.intro rfl rfl):AW P k .ret Q ⟨n,e,st⟩:=Ap (hq▸⟨_,AK h,g⟩)
theorem rd {Q:Exit->St->Prop}{q:St->Prop}(L:List (Nat×AV))(h:RX (λt=>Je [] (e t)) L=Rk L:=by exact rfl)(hq:Q .ret ⟨n,e,st⟩ =∃a,Wk 0 ⟨n,e,st⟩ a/\q a:=by exact rfl)(g:q ⟨n,Aa L,[]⟩:=by exact And.intro rfl rfl):AW P 0 .ret Q ⟨n,e,st⟩:=Ap (hq▸⟨_,Bj L h,g⟩)
end
end Go.Abs
namespace RC
open Go Go.Abs
structure Cell where
 count:Int
 tag:Int
 fields:List Int
def eI (n:Int):List AV:=[.int .i64 n]
def Ey (n:Int):List AV:=[.int .u8 n]
def eB (b:Bool):List AV:=[.bool b]
def eS {α:Type}(e:α->List AV)(l:List α):List AV:=[.sl (l.map e)]
def IB (n:Int):Prop:=-9223372036854775808<=n/\n<=9223372036854775807
def U8 (n:Int):Prop:=0<=n/\n<=255
def IP {α:Type}(Ul:α->Prop)(l:List α):Prop:=(∀x∈l,Ul x)/\l.length<=9223372036854775807
structure WB (c:Cell):Prop where
 count:IB c.count
 tag:IB c.tag
 Lj:IP IB c.fields
theorem WB.len {c:Cell}(h:WB c):c.fields.length<=9223372036854775807:=h.Lj.2
end RC
namespace RC
open Go Go.Abs
structure Kt (S:Type) where
 steps:List S
 result:Int
inductive Step where
 | mk (op num Y0:Int) (args:List Int) (kids:List (Kt Step))
abbrev Block:=Kt Step
@[reducible] def Block.mk (steps:List Step)(result:Int):Block:=⟨steps,result⟩
def Step.op:Step->Int|.mk o _ _ _ _=>o
def Step.num:Step->Int|.mk _ n _ _ _=>n
def Step.Y0:Step->Int|.mk _ _ i _ _=>i
def Step.args:Step->List Int|.mk _ _ _ a _=>a
def Step.kids:Step->List Block|.mk _ _ _ _ k=>k
noncomputable def V3 (s:Step):List AV:=
 Step.rec (motive_1:=λ_=>List AV) (motive_2:=λ_=>List (List AV)) (motive_3:=λ_=>List AV) (motive_4:=λ_=>List (List AV))
  (λo n i a _ ks=>[.int .i64 o,.int .i64 n,.int .i64 i,.sl (a.map eI),.sl ks])
  [] (λ_ _ b bs=>b::bs) (λ_ r ss=>[.sl ss,.int .i64 r]) [] (λ_ _ s ss=>s::ss) s
noncomputable def Wi (b:Block):List AV:=[.sl (b.steps.map V3),.int .i64 b.result]
theorem XD (ks:List Block):
  Step.rec_1 (motive_1:=λ_=>List AV) (motive_2:=λ_=>List (List AV)) (motive_3:=λ_=>List AV) (motive_4:=λ_=>List (List AV))
  (λo n i a _ ks=>[.int .i64 o,.int .i64 n,.int .i64 i,.sl (a.map eI),.sl ks])
  [] (λ_ _ b bs=>b::bs) (λ_ r ss=>[.sl ss,.int .i64 r]) [] (λ_ _ s ss=>s::ss) ks=ks.map Wi:=by
 have key:∀ss:List Step,Step.rec_3 (motive_1:=λ_=>List AV) (motive_2:=λ_=>List (List AV)) (motive_3:=λ_=>List AV) (motive_4:=λ_=>List (List AV))
  (λo n i a _ ks=>[.int .i64 o,.int .i64 n,.int .i64 i,.sl (a.map eI),.sl ks])
  [] (λ_ _ b bs=>b::bs) (λ_ r ss=>[.sl ss,.int .i64 r]) [] (λ_ _ s ss=>s::ss) ss=ss.map V3:=by
  intro ss
  induction ss with
  | nil=>rfl
  | cons s ss ih=>exact iE (V3 s::·) ih
 induction ks with
 | nil=>rfl
 | cons b ks ih=>
  obtain⟨ss,r⟩:=b;exact (iE (·::_) (iE (λx=>[AV.sl x,AV.int .i64 r]) (key ss))).trans (iE (Wi ⟨ss,r⟩::·) ih)
theorem eM (s:Step):V3 s=[.int .i64 s.op,.int .i64 s.num,.int .i64 s.Y0,.sl (s.args.map eI),.sl (s.kids.map Wi)]:=by
 obtain⟨o,n,i,a,k⟩:=s;exact iE (λx=>[AV.int .i64 o,.int .i64 n,.int .i64 i,.sl (a.map eI),.sl x]) (XD k)
end RC
namespace RC
open Go Go.Abs
structure Dd where
 fields:List Int
structure AN where
 from_:Int
 to:Int
 cons:List Dd
structure Y6 where
 op:Int
 dst:Int
 num:Int
 Y0:Int
 args:List Int
 jumps:List Int
structure ar where
 params:List Int
 Fp:List Int
 result:Int
 fY:Int
 code:List Y6
structure cc where
 decls:List AN
 procs:List ar
structure Bo where
 params:List Int
 Fp:List Int
 result:Int
structure BL where
 decls:List AN
 funcs:List Bo
inductive AG where
 | mk (op num:Int) (kids:List AG)
def AG.op:AG->Int|.mk o _ _=>o
def AG.num:AG->Int|.mk _ n _=>n
def AG.kids:AG->List AG|.mk _ _ k=>k
theorem Nx (s:AG):s=AG.mk s.op s.num s.kids:=by cases s;rfl
structure Ad where
 params:List Int
 result:Int
 body:AG
structure AP where
 decls:List AN
 funcs:List Ad
def Bv (c:Dd):List AV:=[.sl (c.fields.map eI)]
def Ai (d:AN):List AV:=[.int .i64 d.from_,.int .i64 d.to,.sl (d.cons.map Bv)]
def Bw (p:Bo):List AV:=[.sl (p.params.map eI),.sl (p.Fp.map eI),.int .i64 p.result]
def F4 (x:BL):List AV:=[.sl (x.decls.map Ai),.sl (x.funcs.map Bw)]
noncomputable def Az (s:AG):List AV:=
 AG.rec (motive_1:=λ_=>List AV) (motive_2:=λ_=>List (List AV)) (λo n _ ks=>[.int .i64 o,.int .i64 n,.sl ks]) [] (λ_ _ b bs=>b::bs) s
theorem Vw (ks:List AG):
  AG.rec_1 (motive_1:=λ_=>List AV) (motive_2:=λ_=>List (List AV)) (λo n _ ks=>[.int .i64 o,.int .i64 n,.sl ks]) [] (λ_ _ b bs=>b::bs) ks=ks.map Az:=by
 induction ks with
 | nil=>rfl
 | cons b ks ih=>exact iE (Az b::·) ih
theorem Al (s:AG):Az s=[.int .i64 s.op,.int .i64 s.num,.sl (s.kids.map Az)]:=by
 obtain⟨o,n,k⟩:=s;exact iE (λx=>[AV.int .i64 o,.int .i64 n,.sl x]) (Vw k)
theorem Ab (s:AG):(Az s).all simple=true:=by rw[Al];rfl
theorem DJ (s:AG):(Az s).length=3:=by rw[Al];rfl
noncomputable def BO (f:Ad):List AV:=[.sl (f.params.map eI),.int .i64 f.result,.int .i64 f.body.op,.int .i64 f.body.num,.sl (f.body.kids.map Az)]
noncomputable def db (x:AP):List AV:=[.sl (x.decls.map Ai),.sl (x.funcs.map BO)]
structure cC (c:Dd):Prop where
 fields:IP IB c.fields
structure Lr (d:AN):Prop where
 from_:IB d.from_
 to:IB d.to
 cons:IP cC d.cons
end RC
namespace RC
open Go Go.Abs
inductive Aq:AG->Prop where
 | mk {e:AG}:IB e.op->IB e.num->e.kids.length<=9223372036854775807->(∀k∈e.kids,Aq k)->Aq e
theorem Aq.op {e:AG}(h:Aq e):IB e.op:=by cases h;assumption
theorem Aq.num {e:AG}(h:Aq e):IB e.num:=by cases h;assumption
theorem Aq.Ks {e:AG}(h:Aq e):e.kids.length<=9223372036854775807:=by cases h;assumption
theorem Aq.kids {e:AG}(h:Aq e):∀k∈e.kids,Aq k:=by cases h;assumption
theorem cu (a0:List Int)(a1:Int)(a2:AG):BO ⟨a0,a1,a2⟩=eS eI a0++(eI a1++Az a2):=by rw[Al];rfl
structure UH (f:Ad):Prop where
 params:IP IB f.params
 result:IB f.result
 body:Aq f.body
structure XL (p:AP):Prop where
 decls:IP Lr p.decls
 funcs:IP UH p.funcs
structure Z5 where
 params:List Int
 Fp:List Int
 result:Int
 body:Block
structure IA where
 decls:List AN
 eO:List Z5
end RC
namespace RC
open Go Go.Abs
theorem Qk {α:Type}{l:List α}{enc nG:α->List AV}(h :∀x,Hs (enc x)=nG x):Jw (l.map enc)=l.map nG:=by
 rw[Hb,iP];exact gO λx _=>h x
theorem Y2 (n:Int):Hs (eI n)=eI n:=rfl
end RC
namespace RC
open Go Go.Abs
end RC
namespace RC
open Go Go.Abs
def G7 (a:Nat)(c:Dd):List AV:=[.dv a 1 (c.fields.map eI)]
theorem Xp {a:Nat}(c:Dd):Hs (G7 a c)=Bv c:=by
 simp only[G7,Hs,OR,Qk Y2,Bv]
def BU (a b:Nat)(d:AN):List AV:=[.int .i64 d.from_,.int .i64 d.to,.dv a 1 (d.cons.map (G7 b))]
theorem WH {a b:Nat}(d:AN):Hs (BU a b d)=Ai d:=by
 simp only[BU,Hs,OR,Qk Xp,Ai]
end RC
namespace RC
open Go Go.Abs
noncomputable def BZ (a:Nat)(s:AG):List AV:=
 AG.rec (motive_1:=λ_=>List AV) (motive_2:=λ_=>List (List AV)) (λo n _ ks=>[.int .i64 o,.int .i64 n,.dv a 3 ks]) [] (λ_ _ b bs=>b::bs) s
theorem VM (a:Nat)(ks:List AG):
  AG.rec_1 (motive_1:=λ_=>List AV) (motive_2:=λ_=>List (List AV)) (λo n _ ks=>[.int .i64 o,.int .i64 n,.dv a 3 ks]) [] (λ_ _ b bs=>b::bs) ks=ks.map (BZ a):=by
 induction ks with
 | nil=>rfl
 | cons b ks ih=>exact iE (BZ a b::·) ih
theorem E4 {a:Nat}(s:AG):BZ a s=[.int .i64 s.op,.int .i64 s.num,.dv a 3 (s.kids.map (BZ a))]:=by
 obtain⟨o,n,k⟩:=s;exact iE (λx=>[AV.int .i64 o,.int .i64 n,.dv a 3 x]) (VM a k)
theorem An {a:Nat}(s:AG):(BZ a s).all EY=true:=by rw[E4];rfl
theorem Gi {a:Nat}(s:AG):(BZ a s).all Og=true:=by rw[E4];rfl
mutual
theorem NT {a:Nat}:∀s:AG,Hs (BZ a s)=Az s
 | .mk o n k=>by
  rw[E4,Al];simp only[Hs,OR,AG.op,AG.num,AG.kids,P4 k]
theorem P4 {a:Nat}:∀l:List AG,Jw (l.map (BZ a))=l.map Az
 | []=>rfl
 | e::l=>by simp only[gP,Jw,NT e,P4 l]
end
noncomputable def DC (a b:Nat)(f:Ad):List AV:=[.dv a 1 (f.params.map eI),.int .i64 f.result,.int .i64 f.body.op,.int .i64 f.body.num,.dv b 3 (f.body.kids.map (BZ b))]
theorem Wj {a b:Nat}(f:Ad):Hs (DC a b f)=BO f:=by
 simp only[DC,Hs,OR,Qk Y2,Qk NT,BO]
end RC
namespace RC
end RC
