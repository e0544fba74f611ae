import Derived.Test.YtpahalfiiahddaaGreatGAbsZPToSSDefs

namespace RC
open Go Go.Abs
theorem Ev {α:Type} {l:List α} {enc:α→List AV} (h :∀y,(enc y).all OP=true):Ru (l.map enc):=fun y hy c hc=>by
 obtain⟨z,_,rfl⟩:=List.mem_map.1 hy
 exact List.all_eq_true.1 (h z) c hc
section
variable {P : Program} {s : St} {x y : Operand} {t el : TypeId} {size bytes id g m : Nat} {zz : List AV} {xs : List (List AV)} {n : Int} {kk : IntKind}
theorem Mo (he:By P t=some ⟨el,size,bytes,zz⟩) (hx:s.ev x=.own id g m) (hy:s.ev y=.int kk n) (hr:s.st[id]?=some ⟨g,el,size,xs⟩) (h0:0≤n) (h1:n < m) (hm:m=xs.length) :
  AQ P s (.indexAddr t x y) (.ptr id g n.toNat 0):=fun K hk=>by
 show Gl P s.st t (s.ev x) (s.ev y) K
 rw[hx,hy];exact Aj _ he ⟨h0,h1,Aj _ hr ⟨rfl,rfl,by subst hm;simpa using hk⟩⟩
end
end RC



namespace RC
open Go Go.Abs
def mix {α:Type} (e1 e2:α→List AV) (k:Nat) (l:List α):List (List AV):=(l.take k).map e1 ++ (l.drop k).map e2
section
variable {α : Type} {e1 e2 : α → List AV} {k : Nat} {l : List α}
theorem Fg:(mix e1 e2 k l).length=l.length:=by simp[mix];omega
theorem Vs:mix e1 e2 0 l=l.map e2:=by simp[mix]
theorem Vn (h:l.length≤k):mix e1 e2 k l=l.map e1:=by
 simp[mix,List.take_of_length_le h,List.drop_eq_nil_of_le h]
theorem UR {c:α} (h:l[k]?=some c):(mix e1 e2 k l)[k]?=some (e2 c):=by
 obtain⟨hk,rfl⟩:=List.getElem?_eq_some_iff.1 h
 unfold mix
 rw[List.getElem?_append_right (by simp;omega)]
 simp only[List.length_map,List.length_take,Nat.min_eq_left (Nat.le_of_lt hk),Nat.sub_self,List.getElem?_map,List.getElem?_drop,Nat.add_zero,List.getElem?_eq_getElem hk,Option.map_some]
theorem Xt {c d:α} (h:l[k]?=some c):(mix e1 e2 k l).set k (e1 d)=mix e1 e2 (k+1) (l.set k d):=by
 obtain⟨hk,rfl⟩:=List.getElem?_eq_some_iff.1 h
 unfold mix
 rw[List.set_append_right _ _ (by simp;omega)]
 simp only[List.length_map,List.length_take,Nat.min_eq_left (Nat.le_of_lt hk),Nat.sub_self]
 rw[List.drop_eq_getElem_cons hk,List.map_cons,List.set_cons_zero]
 rw[List.take_add_one,List.take_set_of_le (Nat.le_refl k),List.drop_set_of_lt (by omega)]
 simp[hk]
theorem Rc (h1 :∀y,(e1 y).all Eg=true) (h2 :∀y,(e2 y).all Eg=true):CO (mix e1 e2 k l):=fun x hx c hc=>by
 unfold mix at hx
 rcases List.mem_append.1 hx with h | h
 ·obtain⟨y,_,rfl⟩:=List.mem_map.1 h
  exact List.all_eq_true.1 (h1 y) c hc
 ·obtain⟨y,_,rfl⟩:=List.mem_map.1 h
  exact List.all_eq_true.1 (h2 y) c hc
end
theorem Mf {sel:List Nat} {g el sz:Nat} {xs:List (List AV)} (h:CO xs):Bp sel ⟨g,el,sz,xs⟩=⟨g,el,sz,xs⟩:=by
 simp only[Bp]
 congr 1
 refine (List.map_congr_left (g:=id) fun x hx=>?_).trans (List.map_id _)
 refine (List.map_congr_left (g:=id) fun c hc=>?_).trans (List.map_id _)
 exact Ll (h x hx c hc)
theorem X5 {sel:List Nat} {g el sz i:Nat} {xs:List (List AV)} {x:List AV} (h:CO xs) (hx:x.map (JH sel)=x):Bp sel ⟨g,el,sz,xs.set i x⟩=⟨g,el,sz,xs.set i x⟩:=by
 have h1:=Mf (sel:=sel) (g:=g) (el:=el) (sz:=sz) h
 simp only[Bp,Row.mk.injEq,true_and] at h1 ⊢
 rw[List.map_set,h1,hx]
theorem UB {n:Nat} {e:Nat→AV} {st st':List Row} {L:List (Nat×AV)} (sel:List Nat) (hnd:sel.Nodup) (hlt:sel.all (· < st.length)=true) (hp:CG st sel=st') (hr :∀row∈st',Bp sel row=row) (h:ME (fun t=>Jm sel (e t)) L) :
  Wk 0 ⟨n,e,st⟩ ⟨n,AL L,st'⟩:=fun F os a w hrel=>by
 have hle:=R5 hrel
 refine UI sel rfl hnd hlt (by rw[hp];exact (List.map_congr_left hr).trans (List.map_id _)) (fun row hrow=>?_) h F os a w hrel
 rw[← hp] at hrow
 obtain⟨i,_,hi⟩:=List.mem_filterMap.1 hrow
 exact hle row (List.mem_of_getElem? hi)
end RC

