import Derived.Test.YtccficmcdkcpnaaGreatGAbsZPToSSDefs
set_option linter.all false
namespace RC
open Go Go.Abs
theorem Q4 {α:Type}{l:List α}{enc:α->List AV}(h :∀y,(enc y).all VE=true):Vw (l.map enc):=λy hy c hc=>by
 obtain⟨z,_,rfl⟩:=qT.1 hy;exact qC.1 (h z) c hc
section
variable {P : Program} {s : St} {x y : Operand} {t el : TypeId} {size bytes id g m : Nat} {zz : List AV} {xs : List (List AV)} {n : Int} {kk : IntKind}
theorem RF (he:DR P t=some ⟨el,size,bytes,zz⟩)(hx:s.ev x=.own id g m)(hy:s.ev y=.int kk n)(hr:s.st[id]?=some ⟨g,el,size,xs⟩)(h0:0<=n)(h1:n<m)(hm:m=xs.length):
  AQ P s (.indexAddr t x y) (.ptr id g n.toNat 0):=λK hk=>by
 show MD P s.st t (s.ev x) (s.ev y) K;rw[hx,hy];exact An _ he ⟨h0,h1,An _ hr ⟨rfl,rfl,by subst hm;simpa using hk⟩⟩
end
end RC
namespace RC
open Go Go.Abs
def mix {α:Type}(e1 e2:α->List AV)(k:Nat)(l:List α):List (List AV):=(l.take k).map e1++(l.drop k).map e2
section
variable {α : Type} {e1 e2 : α -> List AV} {k : Nat} {l : List α}
theorem Hc:(mix e1 e2 k l).length=l.length:=by simp[mix];omega
theorem Zx:mix e1 e2 0 l=l.map e2:=by simp[mix]
theorem Zl (h:l.length<=k):mix e1 e2 k l=l.map e1:=by
 simp[mix,rj h,sJ h]
theorem YM {c:α}(h:l[k]?=some c):(mix e1 e2 k l)[k]?=some (e2 c):=by
 obtain⟨hk,rfl⟩:=px.1 h;unfold mix;rw[qS (by simp;omega)];simp only[qc,sM,tL (Nat.le_of_lt hk),sK,qA,qy,tC,qD hk,qx]
theorem dJ {c d:α}(h:l[k]?=some c):(mix e1 e2 k l).set k (e1 d)=mix e1 e2 (k+1) (l.set k d):=by
 obtain⟨hk,rfl⟩:=px.1 h;unfold mix;rw[List.set_append_right _ _ (by simp;omega)];simp only[qc,sM,tL (Nat.le_of_lt hk),sK];rw[List.drop_eq_getElem_cons hk,qj,tU];rw[List.take_add_one,tN (qU k),List.drop_set_of_lt (by omega)];simp[hk]
theorem Vq (h1 :∀y,(e1 y).all Ey=true)(h2 :∀y,(e2 y).all Ey=true):DO (mix e1 e2 k l):=λx hx c hc=>by
 unfold mix at hx;rcases qb.1 hx with h|h
 ·obtain⟨y,_,rfl⟩:=qT.1 h;exact qC.1 (h1 y) c hc
 ·obtain⟨y,_,rfl⟩:=qT.1 h;exact qC.1 (h2 y) c hc
end
theorem Qf {sel:List Nat}{g el sz:Nat}{xs:List (List AV)}(h:DO xs):Cu sel ⟨g,el,sz,xs⟩=⟨g,el,sz,xs⟩:=by
 simp only[Cu];congr 1;refine (qk (g:=id) λx hx=>?_).trans (rZ _);refine (qk (g:=id) λc hc=>?_).trans (rZ _);exact Pg (h x hx c hc)
theorem cu {sel:List Nat}{g el sz i:Nat}{xs:List (List AV)}{x:List AV}(h:DO xs)(hx:x.map (Jw sel)=x):Cu sel ⟨g,el,sz,xs.set i x⟩=⟨g,el,sz,xs.set i x⟩:=by
 have h1:=Qf (sel:=sel) (g:=g) (el:=el) (sz:=sz) h;simp only[Cu,Row.mk.injEq,true_and]at h1⊢;rw[rh,h1,hx]
theorem YG {n:Nat}{e:Nat->AV}{st st':List Row}{L:List (Nat×AV)}(sel:List Nat)(wc:sel.Nodup)(vS:sel.all (·<st.length)=true)(hp:CD st sel=st')(hr :∀row∈st',Cu sel row=row)(h:ME (λt=>Jx sel (e t)) L):
  Wk 0 ⟨n,e,st⟩ ⟨n,AL L,st'⟩:=λF os a w vb=>by
 have hle:=P1 vb;refine XW sel rfl wc vS (by rw[hp];exact (qk hr).trans (rZ _)) (λrow uj=>?_) h F os a w vb;rw[<- hp]at uj;obtain⟨i,_,hi⟩:=rQ.1 uj;exact hle row (pt hi)
end RC
