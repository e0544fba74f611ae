import Derived.Test.YtpahalfiiahddaaGEncCToSSDefs

namespace Go.Abs
open Go
section
variable {P : Program} {k : Nat} {ops : Array Oper} {Q : Exit → St → Prop} {ds : List (Option Tmp)} {r : List Oper} {n : Nat} {e : Nat → AV} {st st' : List Row} {ty : TypeId} {ps : String} {ed : Array Edge} {gd : Option (Nat × Bool)} {T : TypeId} {x y : Operand} {size id g sz : Nat} {el : TypeId} {α : Type} {l : List α} {enc : α → List AV} {c : α} {i : Int} {v : AV} {cs x0 : List AV} {ag : Bool}
end
end Go.Abs



namespace Go.Abs
open Go
structure MS where
 n:Nat
 e:Nat→AV
 x:Row
 z:List Row
def MS.st (R:List Row) (m:MS):St:=⟨m.n,m.e,m.x :: (R ++ m.z)⟩
def MS.put (m:MS) (d:Option Tmp) (v:AV):MS:=match d with
 | some d=>{ m with e:=D9 m.e d v }
 | none=>m
theorem KH (R:List Row) (m:MS) (d:Option Tmp) (v:AV):(m.put d v).st R=(m.st R).put d v:=by cases d <;> rfl
theorem Jb (m:MS) (d:Option Tmp) (v:AV):(m.put d v).x=m.x:=by cases d <;> rfl
theorem JQ (m:MS) (d:Option Tmp) (v:AV):(m.put d v).z=m.z:=by cases d <;> rfl
theorem JI (m:MS) (d:Option Tmp) (v:AV):(m.put d v).n=m.n:=by cases d <;> rfl
def MS.ev (m:MS) (x:Operand):AV:=St.ev ⟨m.n,m.e,[]⟩ x
theorem Oc (R:List Row) (m:MS) (x:Operand):(m.st R).ev x=m.ev x:=by cases x <;> rfl
inductive Kind where
 | q
 | l (x y:Row)
 | a (row:Row)
def Kind.D:Kind→Row→List Row→Prop
 | .q,_,_=>True
 | .l x0 _,x,_=>x=x0
 | .a _,_,z=>z=[]
def Kind.fx:Kind→Row→Row
 | .l _ y,_=>y
 | _,x=>x
def Kind.fz:Kind→List Row→List Row
 | .a row,_=>[row]
 | _,z=>z
def Oo (o:Oper):Bool:=match o.op with
 | .call ⟨.value _,_,_⟩=>true
 | _=>false
def OZ (o:Oper):Bool:=match o.op with
 | .alloc _=>true
 | _=>false
def Kind.fits:Kind→Oper→Prop
 | .q,_=>True
 | .l ..,o=>Oo o=true
 | .a _,o=>OZ o=true
def MS.go (m:MS) (kd:Kind):MS:=⟨m.n,m.e,kd.fx m.x,kd.fz m.z⟩
section
variable {P : Program} {k : Nat} {ops : Array Oper} {md : Region.Mode} {R : List Row}
def ZL (P:Program) (k:Nat) (o:Oper) (s s':St):Prop:=
 ∀(F:Nat→Prop) (os:List Own) (a:Act) (w:World),Rel F os s a w→∀(next:Act→World→Prop) (Q:Exit→Act→World→Prop),
  (∀a' w',Step k s.n F os w (·=s') a' w'→next a' w')→o.wp P a w next Q
def US (P:Program) (k:Nat) (R:List Row) (o:Oper) (n:Nat) (ev:Operand→AV) (kd:Kind) (v:AV):Prop:=
 ∀x z e,kd.D x z→(∀y∈o.op.operands,MS.ev ⟨n,e,x,z⟩ y=ev y)→Dd n o.dst=true→ZL P k o (MS.st R ⟨n,e,x,z⟩) (MS.st R ((MS.go ⟨n,e,x,z⟩ kd).put o.dst v))
def ZE (P:Program) (k:Nat) (R:List Row) (o:Oper) (m m':MS):Prop:=
 ∃kd v,Kind.fits kd o∧kd.D m.x m.z∧m'=(m.go kd).put o.dst v∧US P k R o m.n m.ev kd v
def MT (P:Program) (k:Nat) (R:List Row) (ops:Array Oper) (o:Oper) (m m':MS):Prop:=
 (Dz ops o (m.st R)=some true∧ZE P k R o m m')∨(Dz ops o (m.st R)=some false∧m'=m.put o.dst .un)
def P7 (P:Program) (k:Nat) (R:List Row) (ops:Array Oper) (i:Nat) (K:MS→Prop) (m:MS):Prop:=
 match ops[i]? with
 | none=>K m
 | some o=>∃m',MT P k R ops o m m'∧K m'
theorem Pw {m:MS} {d:Option Tmp} {v:AV} {x:Operand} (h :∀t,d=some t→x≠.tmp t):(m.put d v).ev x=m.ev x:=by
 cases d with
 | none=>rfl
 | some d=>
  cases x with
  | tmp t=>
   have hne:t≠d:=fun e=>h d rfl (e ▸ rfl)
   simp[MS.ev,MS.put,St.ev,D9,hne]
  | _=>rfl
theorem Ik (m:MS) {x y:Option Tmp} (v u:AV) (h :∀d,x=some d→y≠some d):(m.put x v).put y u=(m.put y u).put x v:=by
 cases x with
 | none=>rfl
 | some d=>
  cases y with
  | none=>rfl
  | some e=>
   have hne:d≠e:=fun he=>h d rfl (he ▸ rfl)
   simp only[MS.put,MS.mk.injEq,true_and,and_true]
   funext t
   simp only[D9]
   by_cases h1:t=d
   ·subst h1;simp[hne]
   ·by_cases h2:t=e
    ·subst h2;simp[h1]
    ·simp[h1,h2]
theorem PH (m:MS) (kd:Kind) (d:Option Tmp) (v:AV):(m.put d v).go kd=(m.go kd).put d v:=by cases d <;> rfl
theorem Pn {o:Oper} {m:MS}:Dz ops o (m.st R)=Dz ops o ⟨m.n,m.e,[]⟩:=rfl
theorem FC {oi:Oper} {m:MS} {d:Option Tmp} {u:AV} {kd:Kind} (hd :∀t,d=some t→t ∉ oi.looksAt ops):Dz ops oi (((m.go kd).put d u).st R)=Dz ops oi (m.st R):=by
 rw[Pn,Pn]
 unfold Dz
 cases hg:oi.guard with
 | none=>rfl
 | some p=>
  obtain⟨j,want⟩:=p
  dsimp only
  cases ht:(ops[j]?).bind (·.dst) with
  | none=>rfl
  | some t=>
   dsimp only
   have:((m.go kd).put d u).e t=m.e t:=Pw (m:=m.go kd) (x:=.tmp t) fun t' ht' e=>hd t' ht' (by
    cases e
    exact List.mem_append_right _ (by simp[hg,ht]))
   rw[this]
theorem IA {oi:Oper} {m:MS} {d:Option Tmp} {u:AV} (hd :∀t,d=some t→t ∉ oi.looksAt ops) :∀x∈oi.op.operands,(m.put d u).ev x=m.ev x:=fun x hx=>
 Pw fun t ht hxt=>hd t ht (by
  subst hxt
  exact List.mem_append_left _ (List.mem_filterMap.2 ⟨.tmp t,by simpa using hx,rfl⟩))
theorem US.congr {o:Oper} {n:Nat} {ev ev':Operand→AV} {kd:Kind} {v:AV} (h:US P k R o n ev kd v) (he :∀y∈o.op.operands,ev' y=ev y):US P k R o n ev' kd v:=
 fun x z e hD ho hd=>h x z e hD (fun y hy=>(ho y hy).trans (he y hy)) hd
theorem Tu {ki kj:Kind} {oi oj:Oper} (hi:ki.fits oi) (hj:kj.fits oj) (hf:¬ (Oo oi=true∧Oo oj=true)) (ha:¬ (OZ oi=true∧OZ oj=true)) {x:Row} {z:List Row} (h1:ki.D x z) (h2:kj.D (ki.fx x) (ki.fz z)) :
  kj.D x z∧ki.D (kj.fx x) (kj.fz z)∧ki.fx (kj.fx x)=kj.fx (ki.fx x)∧ki.fz (kj.fz z)=kj.fz (ki.fz z):=by
 cases ki with
 | q=>exact⟨h2,trivial,rfl,rfl⟩
 | l x0 y=>
  cases kj with
  | q=>exact⟨trivial,h1,rfl,rfl⟩
  | l x1 y1=>exact absurd ⟨hi,hj⟩ hf
  | a row=>exact⟨h2,h1,rfl,rfl⟩
 | a row=>
  cases kj with
  | q=>exact⟨trivial,h1,rfl,rfl⟩
  | l x1 y1=>exact⟨h2,h1,rfl,rfl⟩
  | a row1=>exact absurd ⟨hi,hj⟩ ha
theorem VF {oi oj:Oper} {m mi mij:MS} (hap:oi.apart ops oj=true) (hf:¬ (Oo oi=true∧Oo oj=true)) (ha:¬ (OZ oi=true∧OZ oj=true)) (hi:MT P k R ops oi m mi) (hj:MT P k R ops oj mi mij) :
  ∃mj,MT P k R ops oj m mj∧MT P k R ops oi mj mij:=by
 obtain⟨h1,h2,h3⟩:=Oper.apart_spec hap
 have hq :∀(m:MS),m.go .q=m:=fun m=>rfl
 rcases hi with ⟨wi,ki,vi,fi,di,rfl,gi⟩ | ⟨wi,rfl⟩ <;> rcases hj with ⟨wj,kj,vj,fj,dj,rfl,gj⟩ | ⟨wj,rfl⟩
 ·rw[FC h1] at wj
  rw[Jb,JQ] at dj
  obtain⟨e1,e2,e3,e4⟩:=Tu fi fj hf ha di dj
  refine⟨(m.go kj).put oj.dst vj,.inl ⟨wj,kj,vj,fj,e1,rfl,?_⟩,.inl ⟨by rw[FC h3];exact wi,ki,vi,fi,by rw[Jb,JQ];exact e2,?_,?_⟩⟩
  ·rw[JI] at gj
   exact gj.congr fun y hy=>(IA (m:=m.go ki) (u:=vi) h1 y hy).symm
  ·rw[PH,PH,← Ik _ vi vj h2]
   congr 2
   simp only[MS.go,e3,e4]
  ·rw[JI]
   exact gi.congr fun y hy=>IA (m:=m.go kj) h3 y hy
 ·rw[FC h1] at wj
  refine⟨m.put oj.dst .un,.inr ⟨wj,rfl⟩,.inl ⟨by have:=FC (R:=R) (m:=m) (kd:=.q) (u:=.un) h3;rw[hq] at this;rw[this];exact wi,ki,vi,fi,by rw[Jb,JQ];exact di,?_,?_⟩⟩
  ·rw[PH,← Ik _ vi .un h2]
  ·rw[JI]
   exact gi.congr fun y hy=>IA h3 y hy
 ·have h5:=FC (R:=R) (m:=m) (kd:=.q) (u:=.un) h1
  rw[hq] at h5
  rw[h5] at wj
  rw[Jb,JQ] at dj
  refine⟨(m.go kj).put oj.dst vj,.inl ⟨wj,kj,vj,fj,dj,rfl,?_⟩,.inr ⟨by rw[FC h3];exact wi,?_⟩⟩
  ·rw[JI] at gj
   exact gj.congr fun y hy=>(IA h1 y hy).symm
  ·rw[PH,← Ik _ .un vj h2]
 ·have h5:=FC (R:=R) (m:=m) (kd:=.q) (u:=.un) h1
  have h6:=FC (R:=R) (m:=m) (kd:=.q) (u:=.un) h3
  rw[hq] at h5 h6
  rw[h5] at wj
  exact⟨m.put oj.dst .un,.inr ⟨wj,rfl⟩,.inr ⟨by rw[h6];exact wi,by rw[← Ik _ .un .un h2]⟩⟩
def anyM (P:Program) (k:Nat) (R:List Row) (md:Region.Mode) (ops:Array Oper) (n:Nat) (L:Array Bool→MS→Prop):Nat→Array Bool→MS→Prop
 | 0,listed,s=>L listed s
 | f+1,listed,s=>Region.ready md ops listed≠[]∧∀i∈Region.ready md ops listed,i < n∧P7 P k R ops i (anyM P k R md ops n L f (listed.setIfInBounds i true)) s
theorem Qw {F:Nat→Prop} {os:List Own} {a:Act} {w:World} {i:Nat} {K:MS→Prop} {m:MS} (hdst :∀o∈ops.toList,Dd m.n o.dst=true) (hr:Rel F os (m.st R) a w) (h:P7 P k R ops i K m) {next:Act→World→Prop} {Q:Exit→Act→World→Prop}
  (hn :∀a' w',Step k m.n F os w (fun s=>∃m',s=m'.st R∧K m') a' w'→next a' w'):wpOp P ops Q i next a w:=by
 unfold P7 at h
 unfold wpOp
 split
 ·rename_i ho;simp only[ho] at h;exact hn a w ⟨m.st R,F,os,rfl,⟨m,rfl,h⟩,hr,CW _ _ _ _⟩
 ·rename_i o ho
  simp only[ho] at h
  obtain⟨m',hy,hK⟩:=h
  have hod:=hdst o (by have:=List.mem_of_getElem? (l:=ops.toList) (i:=i) (by simpa using ho);exact this)
  rcases hy with ⟨hw,kd,v,_,hD,rfl,hg⟩ | ⟨hw,rfl⟩
  ·rw[if_pos (JT hr hdst hw)]
   refine .inl (hg m.x m.z m.e hD (fun _ _=>rfl) hod F os a w hr next Q ?_)
   rintro a' w' ⟨s',F',os',h1,rfl,h3,h4⟩
   exact hn a' w' ⟨_,F',os',h1,⟨_,rfl,hK⟩,h3,h4⟩
  ·rw[if_neg (by rw[JT hr hdst hw];simp)]
   exact hn _ w ⟨_,F,os,by rw[KH];cases o.dst <;> rfl,⟨_,rfl,hK⟩,by rw[KH];exact hr.un hod,CW _ _ _ _⟩
theorem Ks {n g:Nat} {N:Nat} {L:Array Bool→MS→Prop} {Q':Exit→Act→World→Prop} {F0:Nat→Prop} {os0:List Own} {w0:World} (hdst :∀o∈ops.toList,Dd N o.dst=true)
  (hL :∀listed (m:MS) F os a w,m.n=N→L listed m→Rel F os (m.st R) a w→Ext F0 os0 w0 F os w k→wpAny P md ops Q' g listed a w) :
  ∀(f:Nat) (listed:Array Bool) (m:MS) F os a w,m.n=N→anyM P k R md ops n L f listed m→Rel F os (m.st R) a w→Ext F0 os0 w0 F os w k→wpAny P md ops Q' (f+g) listed a w
 | 0,listed,s,F,os,a,w,hn,h,hr,he=>by rw[Nat.zero_add];exact hL _ _ _ _ _ _ hn h hr he
 | f+1,listed,s,F,os,a,w,hn,h,hr,he=>by
  rw[show f+1+g=(f+g) + 1 by omega]
  refine⟨fun h0=>absurd h0 h.1,fun i hi=>?_⟩
  refine Qw (k:=k) (by rw[hn];exact hdst) hr (h.2 i hi).2 ?_
  rintro a' w' ⟨s',F',os',h1,⟨m',rfl,h2⟩,h3,h4⟩
  exact Ks hdst hL f _ m' F' os' a' w' (by rw[← hn];exact h1) h2 h3 (he.trans h4)
def GS (ops:Array Oper) (i:Nat):Bool:=match ops[i]? with | some o=>Oo o | none=>false
def Lk (ops:Array Oper) (i:Nat):Bool:=match ops[i]? with | some o=>OZ o | none=>false
def WE (md:Region.Mode) (ops:Array Oper) (j i:Nat):Bool:=match ops[j]? with | some o=>o.after.any fun e=>Region.binds md e && e.on == i | none=>false
def MY (md:Region.Mode) (ops:Array Oper) (n:Nat):Bool:=
 (List.range n).all fun j=>(List.range j).all fun i=>(!(Lk ops i && Lk ops j)) && (!(GS ops i && GS ops j) || ((List.range j).any fun m=>decide (i < m) && GS ops m) || WE md ops j i)
theorem Lg {n:Nat} (h:MY md ops n=true) {i j:Nat} (hij:i < j) (hj:j < n):¬ (Lk ops i=true∧Lk ops j=true)∧
  (GS ops i=true→GS ops j=true→(∃m,i < m∧m < j∧GS ops m=true)∨∀oj,ops[j]?=some oj→∃e∈oj.after,Region.binds md e=true∧e.on=i):=by
 unfold MY at h
 have h1:=List.all_eq_true.1 (List.all_eq_true.1 h j (List.mem_range.2 hj)) i (List.mem_range.2 hij)
 rw[Bool.and_eq_true] at h1
 refine⟨fun⟨a,b⟩=>?_,fun a b=>?_⟩
 ·simp[a,b] at h1
 ·have h2:=h1.2
  simp only[a,b,Bool.and_self,Bool.not_true,Bool.false_or,Bool.or_eq_true,List.any_eq_true,List.mem_range,Bool.and_eq_true,decide_eq_true_eq] at h2
  rcases h2 with ⟨m,hm,h3,h4⟩ | h2
  ·exact .inl ⟨m,h3,hm,h4⟩
  ·refine .inr fun oj hoj=>?_
   simp only[WE,hoj,Array.any_eq_true'] at h2
   obtain⟨e,he,hb⟩:=h2
   simp only[Bool.and_eq_true,beq_iff_eq] at hb
   exact⟨e,he,hb⟩
theorem Rn {n:Nat} (h:MY md ops n=true) {listed:Array Bool} (inv:HeadInv md ops n listed) :∀(d i j:Nat),j - i=d→i < j→j < n→GS ops i=true→GS ops j=true→
  listed.getD j false=true→listed.getD i false=true:=by
 intro d
 induction d using Nat.strongRecOn with
 | _ d ih=>
  intro i j hd hij hj hi hfj hl
  rcases (Lg h hij hj).2 hi hfj with ⟨m,h1,h2,h3⟩ | h1
  ·have hm:=ih (j - m) (by omega) m j rfl h2 hj h3 hfj hl
   exact ih (m - i) (by omega) i m rfl h1 (by omega) hi h3 hm
  ·obtain⟨oj,hoj⟩ :∃oj,ops[j]?=some oj:=by
    unfold GS at hfj
    split at hfj
    ·rename_i o ho;exact⟨o,ho⟩
    ·cases hfj
   obtain⟨e,he,hb,rfl⟩:=h1 oj hoj
   exact inv.closed j oj hoj hl e he hb
theorem Sw {n:Nat} (h:MY md ops n=true) {listed:Array Bool} (inv:HeadInv md ops n listed) {i j:Nat} (hij:i < j) (hj:j < n) (hi:GS ops i=true) (hfj:GS ops j=true)
  (hr:j∈Region.ready md ops listed):listed.getD i false=true:=by
 obtain⟨_,oj,hoj,hall⟩:=mem_ready.1 hr
 have key :∀(d i:Nat),j - i=d→i < j→GS ops i=true→listed.getD i false=true:=by
  intro d
  induction d using Nat.strongRecOn with
  | _ d ih=>
   intro i hd hij hi
   rcases (Lg h hij hj).2 hi hfj with ⟨m,h1,h2,h3⟩ | h1
   ·exact Rn h inv _ i m rfl h1 (by omega) hi h3 (ih (j - m) (by omega) m rfl h2 h3)
   ·obtain⟨e,he,hb,rfl⟩:=h1 oj hoj
    exact hall e he hb
 exact key _ i rfl hij hi
theorem SV {n i:Nat} {oi:Oper} {L:Array Bool→MS→Prop} (hwt:MY md ops n=true) (hi:ops[i]?=some oi)
  (htail :∀listed,HeadInv md ops n listed→∀i,i < n→listed.getD i true=false→∀t,n≤t→t ∉ Region.ready md ops listed) (hin:i < n)
  (hdone :∀listed s,L listed s→∀j∈Region.ready md ops listed,n≤j) :
  ∀(f:Nat) (listed:Array Bool) (m mi:MS),HeadInv md ops n listed→(∀j,j < i→listed.getD j true=true)→
   (∀j oj,ops[j]?=some oj→j≠i→listed.getD j true=false→(∀e∈oj.after,Region.binds md e=true→e.on≠i)→oi.apart ops oj=true)→
   i∈Region.ready md ops listed→MT P k R ops oi m mi→
   anyM P k R md ops n L f (listed.setIfInBounds i true) mi→anyM P k R md ops n L (f+1) listed m:=by
 have hstep :∀{K:MS→Prop} {m mi:MS},MT P k R ops oi m mi→K mi→P7 P k R ops i K m:=fun {K m mi} hy h=>by
  unfold P7;simp only[hi];exact⟨mi,hy,h⟩
 intro f
 induction f with
 | zero=>
  intro listed m mi inv hlow _ hr hy H
  have hun:=(mem_ready.1 hr).1
  refine⟨fun h=>(by rw[h] at hr;cases hr),fun j hj=>?_⟩
  have hjn:j < n:=by
   rcases Nat.lt_or_ge j n with h | h
   ·exact h
   ·exact absurd hj (htail _ inv i hin hun j h)
  refine⟨hjn,?_⟩
  by_cases hji:j=i
  ·subst hji;exact hstep hy H
  ·have:=hdone _ _ H j (ready_mono hj hji)
   omega
 | succ f ih=>
  intro listed m mi inv hlow hfree hr hy H
  have hun:=(mem_ready.1 hr).1
  refine⟨fun h=>(by rw[h] at hr;cases hr),fun j hj=>?_⟩
  have hjn:j < n:=by
   rcases Nat.lt_or_ge j n with h | h
   ·exact h
   ·exact absurd hj (htail _ inv i hin hun j h)
  refine⟨hjn,?_⟩
  by_cases hji:j=i
  ·subst hji;exact hstep hy H
  ·have h1:=(H.2 j (ready_mono hj hji)).2
   obtain⟨hjun,oj,hoj,hall⟩:=mem_ready.1 hj
   have hnot :∀e∈oj.after,Region.binds md e=true→e.on≠i:=fun e he hb heq=>by
    have h1:=hall e he hb
    rw[heq,getD_both hun] at h1
    cases h1
   have hlt:i < j:=by
    rcases Nat.lt_trichotomy i j with h | h | h
    ·exact h
    ·exact absurd h.symm hji
    ·have:=hlow j h;rw[hjun] at this;cases this
   have hfn:¬ (Oo oi=true∧Oo oj=true):=fun⟨h1,h2⟩=>by
    have:=Sw hwt inv hlt hjn (by simp[GS,hi,h1]) (by simp[GS,hoj,h2]) hj
    rw[getD_both hun] at this;cases this
   have hal:¬ (OZ oi=true∧OZ oj=true):=fun⟨h1,h2⟩=>
    (Lg hwt hlt hjn).1 ⟨by simp[Lk,hi,h1],by simp[Lk,hoj,h2]⟩
   unfold P7 at h1
   simp only[hoj] at h1
   obtain⟨mij,hmt,hK⟩:=h1
   obtain⟨mj,g1,g2⟩:=VF (hfree j oj hoj hji hjun hnot) hfn hal hy hmt
   unfold P7
   simp only[hoj]
   refine⟨mj,g1,ih (listed.setIfInBounds j true) mj mij (inv.set hj hjn) (fun q hq=>?_) ?_ (ready_mono hr (Ne.symm hji)) g2 ?_⟩
   ·rw[getD_set_ne true (by omega)];exact hlow q hq
   ·intro k ok hk hki hun hno
    refine hfree k ok hk hki ?_ hno
    by_cases hjk:j=k
    ·subst hjk;exact hjun
    ·rw[getD_set_ne true hjk] at hun;exact hun
   ·rw[Array.setIfInBounds_comm _ _ hji]
    exact hK
def JW (P:Program) (k:Nat) (R:List Row):List (Option Tmp)→List Oper→(MS→Prop)→MS→Prop
 | _,[],K,m=>K m
 | ds,o :: r,K,m=>GH ds o (m.st R) (∃m',ZE P k R o m m'∧JW P k R (ds ++ [o.dst]) r K m') (JW P k R (ds ++ [o.dst]) r K (m.put o.dst .un))
theorem RY {n g:Nat} {K:MS→Prop} (hwt:MY md ops n=true) (htail :∀listed,HeadInv md ops n listed→∀i,i < n→listed.getD i true=false→∀t,n≤t→t ∉ Region.ready md ops listed) :
  ∀(l:List Oper) (ds:List (Option Tmp)) (listed:Array Bool) (m:MS),(∀(j:Nat),j < l.length→l[j]?=ops[ds.length+j]?)→(∀(j:Nat) d,ds[j]?=some d→(ops[j]?).map (·.dst)=some d)→ds.length+l.length=n→HeadInv md ops n listed→
  (∀j,j < ds.length→listed.getD j true=true)→
  Region.lexHead md ops g l.length ds.length listed=true→JW P k R ds l K m→
  anyM P k R md ops n (fun listed' s'=>Region.seqB md ops g n listed'=true∧K s') l.length listed m
 | [],ds,listed,s,_,_,hk,_,_,hB,h=>by
  have:ds.length=n:=by simpa using hk
  subst this
  exact⟨by simpa [Region.lexHead] using hB,h⟩
 | o :: l,ds,listed,s,hl,hds,hk,inv,hlow,hB,h=>by
  have h0:ops[ds.length]?=some o:=by simpa using (hl 0 (by simp)).symm
  simp only[List.length_cons,Region.lexHead,Bool.and_eq_true] at hB
  obtain⟨⟨hr,hf⟩,hB'⟩:=hB
  have hkn:ds.length < n:=by simp only[List.length_cons] at hk;omega
  have hr':ds.length∈Region.ready md ops listed:=by simpa using hr
  have hds' :∀(j:Nat) d,(ds ++ [o.dst])[j]?=some d→(ops[j]?).map (·.dst)=some d:=fun j d hj=>by
   rcases Nat.lt_trichotomy j ds.length with h1 | h1 | h1
   ·rw[List.getElem?_append_left h1] at hj;exact hds j d hj
   ·subst h1;rw[HE,Option.some.injEq] at hj;rw[h0];simp[hj]
   ·rw[List.getElem?_eq_none (by simp;omega)] at hj;cases hj
  have hlow' :∀j,j < (ds ++ [o.dst]).length→(listed.setIfInBounds ds.length true).getD j true=true:=fun j hj=>by
   simp only[List.length_append,List.length_cons,List.length_nil] at hj
   by_cases hjd:ds.length=j
   ·subst hjd
    rcases Nat.lt_or_ge ds.length listed.size with h5 | h5
    ·simp[h5]
    ·simp[Array.getElem?_eq_none h5]
   ·rw[getD_set_ne true hjd];exact hlow j (by omega)
  have hrec :∀s',JW P k R (ds ++ [o.dst]) l K s'→anyM P k R md ops n (fun listed' s'=>Region.seqB md ops g n listed'=true∧K s') l.length (listed.setIfInBounds ds.length true) s':=fun s' hs'=>
   RY hwt htail l (ds ++ [o.dst]) _ s' (fun j hj=>by
    have:=hl (j+1) (by simp;omega)
    simp only[List.getElem?_cons_succ] at this
    rw[this];congr 1;simp;omega) hds' (by simp only[List.length_cons,List.length_append,List.length_nil] at hk ⊢;omega) (inv.set hr' hkn) hlow' (by simpa using hB') hs'
  have hfirst :∀m',MT P k R ops o s m'→JW P k R (ds ++ [o.dst]) l K m'→anyM P k R md ops n (fun listed' s'=>Region.seqB md ops g n listed'=true∧K s') (l.length+1) listed s:=fun m' hy hK=>
   SV hwt h0 htail hkn (fun listed' s' hL=>seqB_ready hL.1) l.length listed s m' inv hlow (Region.free_spec h0 hf) hr' hy (hrec _ hK)
  simp only[JW] at h
  rcases PS hds h with ⟨hw,m',h1,h2⟩ | ⟨hw,h1⟩
  ·exact hfirst m' (.inl ⟨hw,h1⟩) h2
  ·exact hfirst _ (.inr ⟨hw,rfl⟩) h1
theorem BQ {id n:Nat} {e:Nat→AV} {x:Row} {Q:Exit→St→Prop} (R:List Row) (m:Nat) (hm:P.follows .mixedOrders=true) (hB:Region.lexTailB .any ops m=true) (hw:MY .any ops m=true) (hd:(ops.toList.all fun o=>Dd n o.dst)=true)
  (h:JW P k R [] (ops.toList.take m) (fun s'=>AO P k ops Q ((ops.toList.take m).map (·.dst)) (ops.toList.drop m) (s'.st R)) ⟨n,e,x,[]⟩):AW P k (.region id ops true) Q ⟨n,e,x :: R⟩:=by
 simp only[Region.lexTailB,Bool.and_eq_true,decide_eq_true_eq] at hB
 obtain⟨⟨⟨⟨_,hn⟩,hs⟩,hc⟩,hlex⟩:=hB
 intro F os a w hr
 have hr0:Rel F os (MS.st R ⟨n,e,x,[]⟩) a w:=by simpa [MS.st] using hr
 obtain⟨hr1,he1⟩:=hr0.drew (k:=k)
 refine wp_region_any hm ?_
 have htl:(ops.toList.take m).length=m:=by simp;omega
 have hdl:(ops.toList.drop m).length=ops.size - m:=by simp
 have H:=RY (md:=.any) (ops:=ops) (n:=m) (g:=ops.size - m) (k:=k) (R:=R) (P:=P) (K:=fun s'=>AO P k ops Q ((ops.toList.take m).map (·.dst)) (ops.toList.drop m) (s'.st R)) hw
  (fun listed inv i hi hun t ht=>tail_waits hs hc hn inv _ i rfl hi hun t ht) (ops.toList.take m) [] _ _ (fun j hj=>by
   rw[htl] at hj;rw[List.getElem?_take,if_pos hj];simp) (by simp) (by simpa using htl) (N9 _) (by simp) (by rw[htl];exact hlex) h
 have:=Ks (k:=k) (g:=ops.size - m) (N:=n) (R:=R) (Q':=Hu k Q F os w) (F0:=F) (os0:=os) (w0:=w) (fun o ho=>List.all_eq_true.1 hd o ho) (fun listed s' F' os' a' w' hn' hL hr' he=>by
  have h1:=hL.2 (fun j=>by
    rw[List.length_map,htl,List.getElem?_drop];simp) (fun j d hj=>by
    simp only[List.getElem?_map,List.getElem?_take] at hj
    split at hj
    ·simpa using hj
    ·cases hj) (by show∀o∈ops.toList,Dd s'.n o.dst=true;rw[hn'];exact fun o ho=>List.all_eq_true.1 hd o ho) F' os' a' w' hr' (Hu k Q F os w) fun _ _ _ hp=>Hu.trans he hp
  have h2:=wpAny_of_seq (md:=.any) (Q':=Hu k Q F os w) (ops.toList.drop m) m listed a' w' (fun j=>by simp[List.getElem?_drop]) (by rw[hdl];exact hL.1) h1
  rwa [hdl] at h2) _ _ _ F os a w.drew rfl H hr1 he1
 rw[htl,show m+(ops.size - m)=ops.size by omega] at this
 exact this
end
section
variable {P : Program} {k : Nat} {R : List Row} {ds : List (Option Tmp)} {r : List Oper} {K : MS → Prop} {n : Nat} {e : Nat → AV} {x0 : Row} {z0 : List Row} {t : Tmp} {op : Op} {ty : TypeId} {ps : String} {ed : Array Edge} {gd : Option (Nat × Bool)} {v : AV}
theorem GO.elim {o:Oper} {A B:Prop} {s:St} (hg:GO ds gd s.env) (ho:o.guard=gd) (h:GH ds o s A B):A:=by
 unfold GH at h
 rw[ho] at h
 cases gd with
 | none=>exact h
 | some q=>
  obtain⟨jj,want⟩:=q
  obtain⟨tg,hj,ht⟩:=hg
  simp only[hj,ht,Sj] at h
  exact h.1 rfl
theorem A1 (hg:GO ds gd e) (h :∀x z,Co P ds [⟨some t,op,ty,ps,ed,gd⟩] (fun s'=>s'.env t=v) ⟨n,e,x :: (R ++ z)⟩) (hk:JW P k R (ds ++ [some t]) r K ⟨n,D9 e t v,x0,z0⟩) :
  JW P k R ds (⟨some t,op,ty,ps,ed,gd⟩ :: r) K ⟨n,e,x0,z0⟩:=by
 refine GO.guard (e:=e) hg ⟨_,⟨.q,v,trivial,trivial,rfl,?_⟩,hk⟩
 intro x z e' _ ho hd F os a w hr next Q hn
 have h1:=h x z
 unfold Co at h1
 have h2:=GO.elim (s:=⟨n,e,x :: (R ++ z)⟩) hg rfl h1
 obtain⟨v',hv,h3⟩:=QH h2
 have hvv:v'=v:=by simpa [Co,St.put,D9] using hv
 subst hvv
 have h4:H8 P ⟨some t,op,ty,ps,ed,gd⟩ (MS.st R ⟨n,e',x,z⟩) (·=v'):=KZ (s:=⟨n,e,x :: (R ++ z)⟩) rfl (fun y hy=>by
  have:=ho y hy
  rw[Oc,this];cases y <;> rfl) h3
 exact RO (k:=k) hr hd h4 (by rw[KH] at hn;exact hn)
theorem Da {K':St→Prop} {st:List Row} (hst:x0 :: (R ++ z0)=st) (h:K' ⟨n,e,st⟩):JW P k R ds [] (fun m=>K' (m.st R)) ⟨n,e,x0,z0⟩:=by
 subst hst;exact h
theorem SN {T:TypeId} {zz:List AV} {m:Nat} (hz:Ge P T=some zz) (hm:R.length+1=m) (hk:JW P k R (ds ++ [some t]) r K ⟨n,D9 e t (.ptr m 0 0 0),x0,[⟨0,T,zz.length,[zz]⟩]⟩) :
  JW P k R ds (⟨some t,.alloc T,ty,ps,ed,none⟩ :: r) K ⟨n,e,x0,[]⟩:=by
 subst hm
 refine⟨_,⟨.a ⟨0,T,zz.length,[zz]⟩,.ptr (R.length+1) 0 0 0,rfl,rfl,rfl,?_⟩,hk⟩
 intro x z e' hz0 ho hd F os a w hr next Q hn
 have hz0:z=[]:=hz0
 subst hz0
 refine H3 (k:=k) (K:=(·=MS.st R ((MS.go ⟨n,e',x,[]⟩ (.a ⟨0,T,zz.length,[zz]⟩)).put (some t) (.ptr (R.length+1) 0 0 0)))) hr hd ?_ hn
 refine Aq _ hz ?_
 simp[MS.st,MS.go,MS.put,St.put,Kind.fx,Kind.fz]
theorem N4 {Ap:List Nat} {A z:List Row} (h:Ap.all (· < A.length)=true):B1 (A ++ z) Ap=B1 A Ap:=by
 unfold B1
 induction Ap with
 | nil=>rfl
 | cons i l ih=>
  simp only[List.all_cons,Bool.and_eq_true,decide_eq_true_eq] at h
  rw[List.filterMap_cons,List.filterMap_cons,List.getElem?_append_left h.1,ih h.2]
theorem O6 {Ap:List Nat} {rs A z:List Row} (h:Ap.all (· < A.length)=true):El Ap rs 0 (A ++ z)=El Ap rs 0 A ++ z:=by
 apply List.ext_getElem?
 intro i
 rw[Ih,Nat.zero_add]
 by_cases hi:i < A.length
 ·rw[List.getElem?_append_left hi,List.getElem?_append_left (by rw[HK];exact hi),Ih,Nat.zero_add]
 ·rw[List.getElem?_append_right (by omega),List.getElem?_append_right (by rw[HK];omega),HK]
  have hx:idx Ap i=none:=by
   cases hx:idx Ap i with
   | none=>rfl
   | some p=>
    have:=List.mem_of_getElem? (Jy hx)
    have:=List.all_eq_true.1 h i this
    simp at this;omega
  rw[hx]
  cases z[i - A.length]? <;> rfl
theorem B7 {f:FuncId} {ars:Array Operand} {ts:Array TypeId} {args args':List AV} {rowsP rows0 rows1 rows1':List Row} {v v':AV} {y0:Row} (Ap:List Nat) (hg:GO ds gd e) (hb:Au P f=true) (hc:Aj P f args' rows0 fun r st=>r=v∧st=rows1) (ha:ars.toList.map (St.ev ⟨n,e,[]⟩) ++ []=args) (hnd:Ap.Nodup) (hlt:Ap.all (· < R.length+1)=true)
  (hp:B1 (x0 :: R) Ap=rowsP) (hs:SR Ap rowsP rows0) (hf:args.map (II Ap)=args') (hlen:rows1.length=Ap.length) (h1 :∀N,UN Ap N rows1 rows1') (hv :∀N,Pa Ap N v=v') (hst':El Ap rows1' 0 (x0 :: R)=y0 :: R)
  (hk:JW P k R (ds ++ [some t]) r K ⟨n,D9 e t v',y0,z0⟩):JW P k R ds (⟨some t,.call ⟨.value (.func f),ars,ts⟩,ty,ps,ed,gd⟩ :: r) K ⟨n,e,x0,z0⟩:=by
 subst ha;subst hp
 refine GO.guard (e:=e) hg ⟨_,⟨.l x0 y0,v',rfl,rfl,rfl,?_⟩,hk⟩
 intro x z e' hx ho hd F os a w hr next Q hn
 have hx:x=x0:=hx
 subst hx
 refine H3 (k:=k) (K:=(·=MS.st R ((MS.go ⟨n,e',x,z⟩ (.l x y0)).put (some t) v'))) hr hd ?_ hn
 show Au P f=true∧callThen P k (MS.st R ⟨n,e',x,z⟩) f (ars.toList.map (MS.st R ⟨n,e',x,z⟩).ev ++ []) (some t) _
 have hev:ars.toList.map (MS.st R ⟨n,e',x,z⟩).ev=ars.toList.map (St.ev ⟨n,e,[]⟩):=NR (f:=f) (ts:=ts) (s0:=MS.st R ⟨n,e',x,z⟩) (s1:=⟨n,e,[]⟩) fun y hy=>by rw[Oc];exact ho y hy
 rw[hev]
 refine⟨hb,Hd fun hle=>?_⟩
 have hsplit:(MS.st R ⟨n,e',x,z⟩).st=(x :: R) ++ z:=rfl
 have hlt':Ap.all (· < (x :: R).length)=true:=by simpa using hlt
 have hpick:B1 (MS.st R ⟨n,e',x,z⟩).st Ap=B1 (x :: R) Ap:=by rw[hsplit];exact N4 hlt'
 obtain⟨e1,e3⟩:=hs.spec (st0:=(MS.st R ⟨n,e',x,z⟩).st) hle (fun row hrow=>by
  rw[← hpick] at hrow
  obtain⟨i,_,hi⟩:=List.mem_filterMap.1 hrow
  exact List.mem_of_getElem? hi)
 refine IB (rows2:=[]) Ap (by simpa using hc) hnd (fun i hi=>by
   have:=List.all_eq_true.1 hlt' i hi
   rw[hsplit,List.length_append];simp only[decide_eq_true_eq] at this;omega) (by rw[hpick];exact e1) e3 hf hlen (fun row hrow=>by
  rw[List.append_nil] at hrow
  exact (h1 _).leaf row hrow) fun _=>?_
 rw[(h1 _).spec,hv,hsplit,O6 hlt',hst']
 simp[MS.st,MS.go,MS.put,St.put,Kind.fx,Kind.fz]
end
end Go.Abs



namespace Go.Abs
open Go
def OE (size:Nat):Nat→List (Nat×AV)→List (List AV)→Prop
 | _,[],[]=>True
 | k,(i,v) :: r,c :: cs=>i=k∧ID v=some c∧c.length=size∧OE size (k+1) r cs
 | _,_,_=>False
theorem OE.len {size:Nat} :∀{k:Nat} {pv:List (Nat×AV)} {css:List (List AV)},OE size k pv css→pv.length=css.length∧∀c∈css,c.length=size
 | _,[],[],_=>⟨rfl,by simp⟩
 | k,(i,v) :: r,c :: cs,h=>by
  obtain⟨h1,h2⟩:=OE.len h.2.2.2
  refine⟨by simp[h1],fun x hx=>?_⟩
  rcases List.mem_cons.1 hx with rfl | hx
  ·exact h.2.2.1
  ·exact h2 x hx
theorem OY {size:Nat} :∀(pv:List (Nat×AV)) (css:List (List AV)) (k:Nat) (pre rest:List AV),pre.length=k * size→rest.length=pv.length * size→OE size k pv css→JF (fun i=>some (i * size,size)) (pre ++ rest) pv=some (pre ++ css.flatten)
 | [],[],k,pre,rest,_,h2,_=>by
  have:rest=[]:=List.eq_nil_of_length_eq_zero (by simpa using h2)
  subst this;rfl
 | (i,v) :: r,c :: cs,k,pre,rest,h1,h2,h=>by
  obtain⟨rfl,hv,hc,hr⟩:=h
  rw[List.length_cons,Nat.add_mul,Nat.one_mul] at h2
  have hlt:size≤rest.length:=by omega
  unfold JF
  simp only[hv]
  rw[if_pos ⟨hc,by rw[List.length_append];omega⟩]
  have hs:FF (pre ++ rest) (i * size) c=(pre ++ c) ++ rest.drop size:=by
   unfold FF
   rw[← h1,List.take_left,hc,List.drop_append,List.drop_eq_nil_of_le (by omega),List.nil_append,show pre.length+size - pre.length=size by omega]
  rw[hs,OY r cs (i+1) (pre ++ c) (rest.drop size) (by rw[List.length_append,Nat.add_mul];omega) (by rw[List.length_drop];omega) hr]
  simp
theorem Oj {size:Nat} :∀(css:List (List AV)),(∀c∈css,c.length=size)→chunk size css.length css.flatten=css
 | [],_=>rfl
 | c :: cs,h=>by
  have hc:=h c (by simp)
  show (c ++ cs.flatten).take size :: chunk size cs.length ((c ++ cs.flatten).drop size)=_
  rw[← hc,List.take_left,List.drop_left,hc,Oj cs fun x hx=>h x (by simp[hx])]
theorem AT {k n:Nat} {e:Nat→AV} {st st':List Row} {L:List (Nat×AV)} (Ap:List Nat) (hk:Ap.take k=List.range k) (hnd:Ap.Nodup) (hlt:Ap.all (· < st.length)=true) (hp:B1 st Ap=st') (hs:SR Ap st' st') (h:ME (fun t=>II Ap (e t)) L) :
  Wk k ⟨n,e,st⟩ ⟨n,Ab L,st'⟩:=OW Ap hk hnd hlt hp hs h
section
variable {P : Program} {k : Nat} {α : Type} {l : List α} {enc : α → List AV} {ops : Array Oper} {Q : Exit → St → Prop} {ds : List (Option Tmp)} {r : List Oper} {n : Nat} {e : Nat → AV} {st st' : List Row} {ty : TypeId} {ps : String} {ed : Array Edge} {t : Tmp} {gd : Option (Nat × Bool)} {T : TypeId} {bytes size m : Nat} {el : TypeId} {zz : List AV}
theorem WW {len:Nat} {parts:Array (Nat×Operand)} {pv:List (Nat×AV)} (hg:GO ds gd e) (he:DS P T=some ⟨el,size,bytes,zz⟩) (hle:len * size≤16777216) (hp:(parts.toList.map fun p=>(p.1,St.ev ⟨n,e,st⟩ p.2))=pv)
  (hz:zz.length=size) (hf:OE size 0 pv (l.map enc)) (hln:len=l.length) (hm:st.length=m) (hst:st ++ [⟨0,el,size,l.map enc⟩]=st') (hk:AO P k ops Q (ds ++ [some t]) r ⟨n,D9 e t (.own m 0 l.length),st'⟩) :
  AO P k ops Q ds (⟨some t,.buildSlice T len parts,ty,ps,ed,gd⟩ :: r) ⟨n,e,st⟩:=by
 obtain⟨h1,h2⟩:=hf.len
 have hl:(l.map enc).length=len:=by rw[List.length_map,hln]
 have ha:=OY pv (l.map enc) 0 [] (List.replicate len zz).flatten (by simp) (by rw[h1,hl];simp[hz]) hf
 rw[List.nil_append,List.nil_append] at ha
 refine A8 (cs:=(l.map enc).flatten) hg he hle hp ha ?_ hln hm hst hk
 rw[← hl];exact Oj _ h2
end
end Go.Abs

