import Derived.Test.YtcegihniiokijaaGreatGPlainAToXNI
import Derived.Test.YtcegihniiokijaaGreatGEncCToULDefs

namespace RC
open Go
def J4:Nat→Nat→List Int
 | _,0=>[]
 | k,n+1=>(k:Int) :: J4 (k+1) n
theorem TE :∀(n k:Nat),(J4 k n).length=n
 | 0,_=>rfl
 | n+1,k=>by simp[J4,TE n]
theorem EE {α:Type} (A B:List α) (x:α):Sh.get (A ++ x :: B) (A.length:Int)=some x:=A4 (by simp)
theorem FX {α:Type} (A B:List α) (x y:α):Sh.put (A ++ x :: B) (A.length:Int) y=A ++ y :: B:=by rw[J2];simp
theorem Lz :∀(B A:List Int) (k n:Nat),B.length < n→A.length+B.length≤2000000→k+B.length≤100000000→
  Dt n (k:Int) (A.length:Int) (A ++ B)=some (((k+B.length:Nat):Int),A ++ J4 k B.length)
 | [],A,k,n,hn,_,_=>by
  obtain⟨n,rfl⟩ :∃m,n=m+1:=⟨n - 1,by simp at hn;omega⟩
  rw[Dt,if_neg (by simp[AU])];simp[J4]
 | b :: B,A,k,n,hn,h1,h2=>by
  simp only[List.length_cons] at hn h1 h2 ⊢
  obtain⟨n,rfl⟩ :∃m,n=m+1:=⟨n - 1,by omega⟩
  have ih:=Lz B (A ++ [(k:Int)]) (k+1) n (by omega) (by simp;omega) (by omega)
  rw[Dt,if_pos (by simp[AU];omega),EE,FX,BJ (by omega) (by omega),BJ (by omega) (by omega)]
  simp only[Option.bind_some]
  rw[List.length_append,List.append_assoc,List.append_assoc] at ih
  simp only[List.length_cons,List.length_nil,List.cons_append,List.nil_append] at ih
  have e1:((A.length:Int) + 1)=((A.length+(0+1):Nat):Int):=by omega
  have e2:((k:Int) + 1)=((k+1:Nat):Int):=by omega
  rw[e1,e2,ih]
  simp only[J4,show k+1+B.length=k+(B.length+1) by omega]
theorem Jr {l:List Int} (hl:l.length≤1048576) {k:Nat} (hk:k≤50000000) {N:Nat} (hN:2000000≤N):Ep N l (k:Int)=some (((k+l.length:Nat):Int),J4 k l.length):=by
 unfold Ep
 have:=Lz l [] k N (by omega) (by simp;omega) (by omega)
 rw[List.length_nil,List.nil_append,List.nil_append] at this
 rw[show (0:Int)=((0:Nat):Int) from rfl,this];rfl
theorem Ls :∀(m:Nat) (A:List Int) (k n:Nat),m < n→A.length+m≤2000000→k+m≤100000000→
  Dr (A ++ J4 k m) n (k:Int) (A.length:Int)=some (Sum.inr (((k+m:Nat):Int)))
 | 0,A,k,n,hn,_,_=>by
  obtain⟨n,rfl⟩ :∃m,n=m+1:=⟨n - 1,by omega⟩
  rw[Dr,if_neg (by simp[AU,J4])];simp
 | m+1,A,k,n,hn,h1,h2=>by
  obtain⟨n,rfl⟩ :∃m,n=m+1:=⟨n - 1,by omega⟩
  have ih:=Ls m (A ++ [(k:Int)]) (k+1) n (by omega) (by simp;omega) (by omega)
  rw[Dr,if_pos (by simp[AU,TE];omega)]
  simp only[J4]
  rw[EE,BJ (by omega) (by omega),BJ (by omega) (by omega)]
  simp only[Option.bind_some,decide_true,Bool.not_true,Bool.false_eq_true,if_false]
  rw[List.length_append,List.append_assoc] at ih
  simp only[List.length_cons,List.length_nil,List.cons_append,List.nil_append] at ih
  have e1:((A.length:Int) + 1)=((A.length+(0+1):Nat):Int):=by omega
  have e2:((k:Int) + 1)=((k+1:Nat):Int):=by omega
  rw[e1,e2,ih]
  simp only[show k+1+m=k+(m+1) by omega]
theorem Js {m:Nat} (hl:m≤1048576) {k:Nat} (hk:k≤50000000) {N:Nat} (hN:2000000≤N):Ey N (J4 k m) (k:Int)=some (((k+m:Nat):Int)):=by
 unfold Ey
 have:=Ls m [] k N (by omega) (by simp;omega) (by omega)
 rw[List.length_nil,List.nil_append] at this
 rw[show (0:Int)=((0:Nat):Int) from rfl,this];rfl
theorem TX {α:Type} {f g:α→Nat} {a b:Nat} :∀{l:List α},(∀x∈l,f x≤a+b * g x)→(l.map f).sum≤a * l.length+b * (l.map g).sum
 | [],_=>by simp
 | x :: r,h=>by
  have h1:=h x (by simp)
  have h2:=TX (l:=r) fun y hy=>h y (by simp[hy])
  simp only[List.map_cons,List.sum_cons,List.length_cons,Nat.mul_add]
  omega
theorem Dw {n:Nat} (h:n≤100000000):Sh.w ((n:Int) + 1)=((n+1:Nat):Int):=by
 rw[BJ (by omega) (by omega)];rfl
def Xn (d:Ag):Nat:=2+(d.cons.map cz).sum
mutual
def ms:Step→Nat | .mk _ _ _ a k=>3+a.length+Sb k
def Sb:List (E8 Step)→Nat | []=>0 | b :: k=>mb b+Sb k
def mb:E8 Step→Nat | ⟨ss,_⟩=>Rw ss+1
def Rw:List Step→Nat | []=>0 | s :: l=>ms s+Rw l
end
theorem cF (s:Step):ms s=3+s.args.length+Sb s.kids:=by cases s;simp only[ms];rfl
theorem cL (b:Block):mb b=Rw b.steps+1:=by cases b;simp only[mb]
theorem Wt :∀k:List Block,Sb k=(k.map mb).sum
 | []=>rfl
 | b :: k=>by rw[List.map_cons,List.sum_cons,← Wt k];simp only[Sb]
theorem WY :∀l:List Step,Rw l=(l.map ms).sum
 | []=>rfl
 | s :: l=>by rw[List.map_cons,List.sum_cons,← WY l];simp only[Rw]
mutual
theorem bO :∀s:Step,ms s≤3+3 * KF s
 | .mk o _ _ a k=>by
  have h1:=Ww k
  simp only[ms,KF]
  omega
theorem Ww :∀k:List (E8 Step),Sb k≤k.length+3 * Jp k
 | []=>by simp[Sb]
 | b :: k=>by
  have h1:=cN b
  have h2:=Ww k
  simp only[Sb,Jp,List.length_cons]
  omega
theorem cN :∀b:E8 Step,mb b≤1+3 * HP b
 | ⟨ss,r⟩=>by
  have h1:=TT ss
  simp only[mb,HP]
  omega
theorem TT :∀l:List Step,Rw l≤3 * l.length+3 * Kl l
 | []=>by simp[Rw]
 | s :: l=>by
  have h1:=bO s
  have h2:=TT l
  simp only[Rw,Kl,List.length_cons]
  omega
end
def Xz (r:Ac):Nat:=r.params.length+r.At.length+1+Rw r.body.steps+1
end RC



namespace RC
open Go
theorem HK {α β:Type} {l:List α} (L:Nat→Int→List β→Option (List β)) (g:α→β) (h0 :∀n acc,L (n+1) ((l.length:Nat):Int) acc=some acc)
  (hs :∀n i x acc,l[i]?=some x→acc.length=i→L (n+1) ((i:Nat):Int) acc=L n ((i+1:Nat):Int) (acc ++ [g x])) {N:Nat} (hN:l.length < N):L N 0 []=some (l.map g):=by
 have key :∀{N i:Nat},i≤l.length→l.length - i < N→L N (i:Int) ((l.take i).map g)=some (l.map g):=by
  intro N i hi hN
  refine Bn l.length (fun N i=>L N (i:Int) ((l.take i).map g)=some (l.map g)) ?_ ?_ hi hN
  ·intro n;rw[h0,List.take_length]
  ·intro n i hi ih
   obtain⟨x,hx,_⟩:=Bl hi
   rw[hs n i x _ hx (by simp;omega),← ih,Ee hx,List.map_append];rfl
 have:=key (Nat.zero_le _) (by omega:l.length - 0 < N)
 simpa using this
theorem Pq {α:Type} {l:List α} (L:Nat→Int→List α→Option (List α)) (g:α→α) (h0 :∀n acc,L (n+1) ((l.length:Nat):Int) acc=some acc)
  (hs :∀n (A:List α) (x:α) (C:List α),A.length+C.length < l.length→l[A.length]?=some x→L (n+1) ((A.length:Nat):Int) (A ++ x :: C)=L n ((A.length+1:Nat):Int) (A ++ g x :: C)) {N:Nat} (hN:l.length < N):L N 0 l=some (l.map g):=by
 have key :∀(C A:List α) (n:Nat),C.length < n→A.length≤l.length→C=l.drop A.length→L n ((A.length:Nat):Int) (A ++ C)=some (A ++ C.map g):=by
  intro C
  induction C with
  | nil=>
   intro A n hn h1 h2
   obtain⟨n,rfl⟩ :∃m,n=m+1:=⟨n - 1,by simp at hn;omega⟩
   have h3:=congrArg List.length h2
   simp at h3
   rw[show A.length=l.length by omega,h0];simp
  | cons x C ih=>
   intro A n hn h1 h2
   have h3:=congrArg List.length h2
   simp only[List.length_cons,List.length_drop] at hn h3
   obtain⟨n,rfl⟩ :∃m,n=m+1:=⟨n - 1,by omega⟩
   have hx:l[A.length]?=some x:=by
    have:=congrArg (fun z=>z[0]?) h2
    simpa using this.symm
   rw[hs n A x C (by omega) hx]
   have:=ih (A ++ [g x]) n (by omega) (by simp;omega) (by
    rw[drop_cons hx] at h2
    simpa using (List.cons.inj h2).2)
   simpa using this
 have:=key l [] N hN (by simp) (by simp)
 simpa using this
theorem Jf {i:Nat} (h:i≤1048576):Sh.w ((i:Int) + 1)=((i+1:Nat):Int):=by rw[BJ (by omega) (by omega)];rfl
theorem Zl {l:List Int} (hl:l.length≤1048576):Cw l=some l:=by
 unfold Cw
 rw[Dp [] l 8 (by simp;omega) (by simp;omega)];rfl
theorem Zh {l:List Int} (hl:l.length≤1048576):Be l=some l:=by
 unfold Be
 rw[Dp [] l 8 (by simp;omega) (by simp;omega)];rfl
theorem Sd {D:List Ag} {i:Nat} {d:Ag} (hd:D[i]?=some d) (hz:dz d≤1048576) {N:Nat} (hN:2000000≤N):Cv i D N 0 []=some d.cons:=by
 unfold dz at hz
 rw[HK (l:=d.cons) (Cv i D) id (fun n acc=>by rw[Cv,A4 hd];simp only[Option.bind_some];rw[if_neg (by simp[AU])]) (fun n j c acc hc ha=>?_) (by omega)]
 ·simp
 ·have hj:=(List.getElem?_eq_some_iff.1 hc).1
  have hcz:=E9 cz (List.mem_of_getElem? hc)
  rw[Cv,A4 hd]
  simp only[Option.bind_some]
  rw[if_pos (by simp[AU];omega),A4 hc]
  simp only[Option.bind_some]
  rw[Zl (show cz c≤1048576 by omega)]
  simp only[Option.bind_some]
  rw[Dp acc _ 24 (by simp;omega) (by simp;omega)]
  simp only[Option.bind_some]
  rw[Jf (by omega)];rfl
theorem Sl {D:List Ag} (hl:D.length≤1048576) (hz :∀d∈D,dz d≤1048576) {N:Nat} (hN:2000000≤N):GY N D=some D:=by
 unfold GY
 rw[HK (l:=D) (DR N D) id (fun n acc=>by rw[DR,if_neg (by simp[AU])]) (fun n j c acc hc ha=>?_) (by omega)]
 ·simp
 ·have hj:=(List.getElem?_eq_some_iff.1 hc).1
  rw[DR,if_pos (by simp[AU];omega),Sd hc (hz c (List.mem_of_getElem? hc)) hN,A4 hc]
  simp only[Option.bind_some]
  rw[Dp acc _ 40 (by simp;omega) (by simp;omega)]
  simp only[Option.bind_some]
  rw[Jf (by omega)];rfl
theorem Rx {D:List Ag} (hl:D.length≤1048576) (hz :∀d∈D,dz d≤1048576) {N:Nat} (hN:2000000≤N):GH N D=some D:=by
 unfold GH CE
 rw[Dp [] D 40 (by simp;omega) (by simp;omega)]
 simp only[Option.bind_some,List.nil_append]
 rw[Pq (l:=D) (C7 N (Sh.len D)) id (fun n acc=>by rw[C7,if_neg (by simp[AU])]) (fun n A d C hA hd=>?_) (by omega)]
 ·simp
 ·have h1:=hz d (List.mem_of_getElem? hd)
  unfold dz at h1
  rw[C7,if_pos (by simp[AU];omega),EE]
  simp only[Option.bind_some]
  unfold Bx
  rw[Dp [] d.cons 24 (by simp;omega) (by simp;omega)]
  simp only[Option.bind_some,List.nil_append]
  rw[Pq (l:=d.cons) (DC d.cons) id (fun n acc=>by rw[DC,if_neg (by simp[AU])]) (fun n B c E hB hc=>?_) (by omega)]
  ·simp only[Option.bind_some,FX,List.map_id]
   rw[Jf (by omega)];rfl
  ·have hcz:=E9 cz (List.mem_of_getElem? hc)
   have hl:=(List.getElem?_eq_some_iff.1 hc).1
   rw[DC,if_pos (by simp[AU];omega),A4 hc]
   simp only[Option.bind_some]
   rw[Zh (show cz c≤1048576 by omega),EE]
   simp only[Option.bind_some]
   rw[FX,Jf (by omega)];rfl
theorem PD {N:Nat} (hN:2000000≤N) {rec:Block→Option Block} {s:Step} (hs:KF s≤1048576) (hrec :∀b∈s.kids,rec b=some b):HB N rec s=some s:=by
 rw[Jo] at hs
 unfold HB
 rw[HK (l:=s.kids) (Dx s rec) id (fun n acc=>by rw[Dx,if_neg (by simp[AU])]) (fun n j c acc hc ha=>?_) (by omega)]
 ·simp only[Option.bind_some]
  rw[Zl (by omega),List.map_id]
  exact congrArg some (KL s).symm
 ·have hj:=(List.getElem?_eq_some_iff.1 hc).1
  rw[Dx,if_pos (by simp[AU];omega),A4 hc]
  simp only[Option.bind_some]
  rw[hrec c (List.mem_of_getElem? hc)]
  simp only[Option.bind_some]
  rw[Dp acc _ 32 (by simp;omega) (by simp;omega)]
  simp only[Option.bind_some]
  rw[Jf (by omega)];rfl
theorem NF {N:Nat} (hN:2000000≤N) :∀(n:Nat) (b:Block),Bs b→HP b < n→EM N n b=some b:=by
 intro n
 induction n with
 | zero=>intro b _ h;omega
 | succ n ih=>
  intro b hb hn
  have hl:=hb.len
  rw[EM]
  unfold Gw
  rw[HK (l:=b.steps) (Cg N b (EM N n)) id (fun n acc=>by rw[Cg,if_neg (by simp[AU])]) (fun q j s acc hs ha=>?_) (by omega)]
  ·simp
  ·have hj:=(List.getElem?_eq_some_iff.1 hs).1
   have hm:=List.mem_of_getElem? hs
   have h1:=HC hm
   rw[Cg,if_pos (by simp[AU];omega),A4 hs]
   simp only[Option.bind_some]
   rw[PD hN (by unfold Bs at hb;omega) (fun c hc=>ih c (Hv hb hm hc).1 (by have:=(Hv hb hm hc).2;omega))]
   simp only[Option.bind_some]
   rw[Dp acc _ 72 (by simp;omega) (by simp;omega)]
   simp only[Option.bind_some]
   rw[Jf (by omega)];rfl
theorem OM {b:Block} (hb:Bs b) {N:Nat} (hN:2000000≤N):Ht N b=some b:=by
 unfold Ht
 exact NF hN N b hb (by unfold Bs at hb;omega)
theorem Po {N:Nat} (hN:2000000≤N) {rec:Block→Option Block} {s:Step} (hs:KF s≤1048576) (hrec :∀b∈s.kids,rec b=some b):FO N rec s=some s:=by
 rw[Jo] at hs
 unfold FO
 rw[HK (l:=s.kids) (CU s rec) id (fun n acc=>by rw[CU,if_neg (by simp[AU])]) (fun n j c acc hc ha=>?_) (by omega)]
 ·simp only[Option.bind_some]
  unfold Fv
  rw[Zh (by omega),List.map_id]
  exact congrArg some (KL s).symm
 ·have hj:=(List.getElem?_eq_some_iff.1 hc).1
  rw[CU,if_pos (by simp[AU];omega),A4 hc]
  simp only[Option.bind_some]
  rw[hrec c (List.mem_of_getElem? hc)]
  simp only[Option.bind_some]
  rw[Dp acc _ 32 (by simp;omega) (by simp;omega)]
  simp only[Option.bind_some]
  rw[Jf (by omega)];rfl
theorem MJ {N:Nat} (hN:2000000≤N) :∀(n:Nat) (b:Block),Bs b→Jm b=true→HP b < n→DO N n b=some b:=by
 intro n
 induction n with
 | zero=>intro b _ _ h;omega
 | succ n ih=>
  intro b hb hp hn
  have hl:=hb.len
  rw[Ti,Rc,List.all_eq_true] at hp
  rw[DO]
  unfold GU
  rw[HK (l:=b.steps) (B9 N b (DO N n)) id (fun n acc=>by rw[B9,if_neg (by simp[AU])]) (fun q j s acc hs ha=>?_) (by omega)]
  ·simp
  ·have hj:=(List.getElem?_eq_some_iff.1 hs).1
   have hm:=List.mem_of_getElem? hs
   have h1:=HC hm
   have h2:=hp s hm
   rw[T9,Xv,Rb] at h2
   simp only[Bool.and_eq_true,Bool.not_eq_true',decide_eq_true_eq,List.all_eq_true] at h2
   rw[B9,if_pos (by simp[AU];omega),A4 hs]
   simp only[Option.bind_some]
   rw[Ju,h2.1.1]
   simp only[Option.bind_some,Bool.not_false,if_true]
   rw[Po hN (by unfold Bs at hb;omega) (fun c hc=>ih c (Hv hb hm hc).1 (h2.2 c hc) (by have:=(Hv hb hm hc).2;omega))]
   simp only[Option.bind_some]
   rw[Dp acc _ 72 (by simp;omega) (by simp;omega)]
   simp only[Option.bind_some]
   rw[Jf (by omega),← h2.1.2]
   exact congrArg (fun z=>B9 N b (DO N n) q ((j+1:Nat):Int) (acc ++ [z])) (KL s).symm
theorem Nh {b:Block} (hb:Bs b) (hp:Jm b=true) {N:Nat} (hN:2000000≤N):HS N b=some b:=by
 unfold HS
 exact MJ hN N b hb hp (by unfold Bs at hb;omega)
def Ya (n:Aj):Aj:=⟨n.decls,n.AD.map fun r=>⟨r.params,[],r.result,r.body⟩⟩
theorem Xe {n:Aj}:Ki (Ya n)≤Ki n:=by
 unfold Ki Ya
 have :∀l:List Ac,((l.map fun r:Ac=>(⟨r.params,[],r.result,r.body⟩:Ac)).map Iw).sum≤(l.map Iw).sum:=by
  intro l
  induction l with
  | nil=>simp
  | cons r l ih=>simp only[List.map_cons,List.sum_cons];unfold Iw at *;simp only[List.length_nil];omega
 have:=this n.AD
 simp only[List.length_map]
 omega
theorem Qf {n:Aj} (S:HI n) {N:Nat} (hN:2000000≤N) {b:Bool} (h1:JH N n=some b):II N n=some (if b then (Ya n,true) else (Aj.mk [] [],false)):=by
 have hl:=S.Oi
 have hz:=S.size
 unfold Ki at hz
 have h1:Fq N n=some b:=by
  unfold JH at h1
  revert h1
  cases Fq N n <;> simp
 unfold II
 rw[h1]
 cases b with
 | false=>simp
 | true=>
  simp only[Option.bind_some,Bool.not_true,Bool.false_eq_true,if_false,if_true]
  rw[HK (l:=n.AD) (EY n) (fun _=>[]) (fun q acc=>by rw[EY,if_neg (by simp[AU])]) (fun q j r acc hr ha=>?_) (by omega)]
  ·simp only[Option.bind_some]
   unfold IW
   rw[Sl (by omega) (fun d hd=>by have:=E9 dz hd;omega) hN]
   simp only[Option.bind_some]
   rw[HK (l:=n.AD) (Dq N n (n.AD.map fun _=>[])) (fun r=>⟨r.params,[],r.result,r.body⟩) (fun q acc=>by rw[Dq,if_neg (by simp[AU])]) (fun q j r acc hr ha=>?_) (by omega)]
   ·rfl
   ·have hj:=(List.getElem?_eq_some_iff.1 hr).1
    have hz:=S.rz (List.mem_of_getElem? hr)
    rw[Dq,if_pos (by simp[AU];omega),A4 hr]
    simp only[Option.bind_some]
    rw[Zl hz.1,A4 (x:=[]) (by simp[hr])]
    simp only[Option.bind_some]
    rw[Zl (by simp),OM hz.2.2 hN]
    simp only[Option.bind_some]
    rw[Dp acc _ 88 (by simp;omega) (by simp;omega)]
    simp only[Option.bind_some]
    rw[Jf (by omega)]
  ·have hj:=(List.getElem?_eq_some_iff.1 hr).1
   rw[EY,if_pos (by simp[AU];omega),Dp acc _ 24 (by simp;omega) (by simp;omega)]
   simp only[Option.bind_some]
   rw[Jf (by omega)]
theorem Qu {n:Aj} (S:HI n) {N:Nat} (hN:2000000≤N) {b:Bool} (h2:Gn N n=some b) (hp:b=true→∀r∈n.AD,Jm r.body=true):HJ N n=some (if b then (Ya n,true) else (Aj.mk [] [],false)):=by
 have hl:=S.Oi
 have hz:=S.size
 unfold Ki at hz
 unfold HJ
 rw[h2]
 cases b with
 | false=>simp
 | true=>
  simp only[Option.bind_some,Bool.not_true,Bool.false_eq_true,if_false,if_true]
  unfold FB
  rw[Rx (by omega) (fun d hd=>by have:=E9 dz hd;omega) hN]
  simp only[Option.bind_some]
  rw[HK (l:=n.AD) (Bv N n) id (fun q acc=>by rw[Bv,if_neg (by simp[AU])]) (fun q j r acc hr ha=>?_) (by omega)]
  ·simp only[Option.bind_some,List.map_id]
   rw[Pq (l:=n.AD) (EX ⟨n.decls,n.AD⟩) (fun r=>⟨r.params,[],r.result,r.body⟩) (fun q acc=>by rw[EX,if_neg (by simp[AU])]) (fun q A r C hA hr=>?_) (by omega)]
   ·rfl
   ·rw[EX,if_pos (by simp[AU];omega),EE]
    simp only[Option.bind_some]
    rw[Jf (by omega),FX]
  ·have hj:=(List.getElem?_eq_some_iff.1 hr).1
   have hm:=List.mem_of_getElem? hr
   have hz:=S.rz hm
   rw[Bv,if_pos (by simp[AU];omega),A4 hr]
   simp only[Option.bind_some]
   rw[Zh hz.1,Zh hz.2.1]
   unfold Ik
   rw[Nh hz.2.2 (hp rfl r hm) hN]
   simp only[Option.bind_some]
   rw[Dp acc _ 88 (by simp;omega) (by simp;omega)]
   simp only[Option.bind_some]
   rw[Jf (by omega)];rfl
end RC

