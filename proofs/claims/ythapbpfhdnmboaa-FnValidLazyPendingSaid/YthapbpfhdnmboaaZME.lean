import Derived.Test.YthapbpfhdnmboaaGPlainAToZMD

namespace RC
open Go
theorem Qx {z:BK} (D:LD z) (V:LV z) {j:Nat} (hj:j < z.cells.length) {M:Nat} (hM:2000000≤M) {N k:Nat} (hk:k≤(cat z.cells j).fields.length) (hN:(cat z.cells j).fields.length - k < N):A9 M (j:Int) z N (k:Int)=some (Sum.inr ()):=by
 have C:=D.sm.cells _ (DM hj)
 have hfl:=C.fl
 have hpl:=D.pl
 refine BH (cat z.cells j).fields.length (fun N k=>A9 M (j:Int) z N (k:Int)=some (Sum.inr ())) ?_ ?_ hk hN
 ·intro n
  rw[A9,BE (Cq hj)]
  simp only[Option.bind_some]
  rw[if_neg (by simp[Ac])]
 ·intro n k hk ih
  obtain⟨x,hx,hxm⟩:=B3 hk
  obtain⟨x1,x2⟩:=C.fi x hxm
  rw[A9,BE (Cq hj)]
  simp only[Option.bind_some]
  rw[if_pos (by simp[Ac];omega),BE hx]
  simp only[Option.bind_some]
  rw[A0 (n:=x - 1000) (by omega) (by omega),QZ (by omega) hM,A0 (by omega) (by omega),show ((k:Int) + 1)=((k+1:Nat):Int) by omega,ih]
  simp only[Option.bind_some]
  have hno:¬ (x - 1000)∈z.pending:=fun h=>by
   obtain⟨a,b,c⟩:=V.gd _ h
   have h1:=V.wz.CF (x - 1000).toNat
   have h2:0 < pc (fl z.cells j) (x - 1000).toNat:=Gw.2 (by rw[B1];rw[show 1000+(((x - 1000).toNat:Nat):Int)=x by omega];exact hxm)
   have h3:pc (fl z.cells j) (x - 1000).toNat≤Em z.cells (x - 1000).toNat:=RD (p:=fun _=>true) hj rfl
   rw[Ed] at h1
   omega
  rw[if_neg (by simpa using hno)]
theorem P9 {z:BK} (D:LD z) (V:LV z) {M:Nat} (hM:2000000≤M) {N i:Nat} (hi:i≤z.cells.length) (hN:z.cells.length - i < N):A8 M z N (i:Int)=some (Sum.inr ()):=by
 have hl:=D.sm.len
 refine BH z.cells.length (fun N i=>A8 M z N (i:Int)=some (Sum.inr ())) ?_ ?_ hi hN
 ·intro n
  rw[A8,if_neg (by simp[Ac])]
 ·intro n i hi ih
  have hfl:=(D.sm.cells _ (DM hi)).fl
  have:=Qx D V hi hM (Nat.zero_le _) (by omega:(cat z.cells i).fields.length - 0 < M)
  rw[show ((0:Nat):Int)=0 from rfl] at this
  rw[A8,if_pos (by simp[Ac];omega),this]
  simp only[Sh.EK]
  rw[A0 (by omega) (by omega),show ((i:Int) + 1)=((i+1:Nat):Int) by omega,ih]
theorem Pu {z:BK} (D:LD z) (V:LV z) {N i:Nat} (hi:i≤z.pending.length) (hN:z.pending.length - i < N):A7 z N (i:Int)=some (Sum.inr ()):=by
 have hl:=D.pl
 refine BH z.pending.length (fun N i=>A7 z N (i:Int)=some (Sum.inr ())) ?_ ?_ hi hN
 ·intro n
  rw[A7,if_neg (by simp[Ac])]
 ·intro n i hi ih
  obtain⟨x,hx,hxm⟩:=B3 hi
  obtain⟨a,b,c⟩:=V.gd x hxm
  rw[A7,if_pos (by simp[Ac];omega),BE hx]
  simp only[Option.bind_some]
  rw[C7 a,Cq (by omega)]
  simp only[Option.bind_some]
  have c':(cat z.cells x.toNat).count=0:=c
  rw[if_neg (by simp[c']),A0 (by omega) (by omega),show ((i:Int) + 1)=((i+1:Nat):Int) by omega,ih]
theorem GD {code:List Int} (hc:Rb code):Cr 2000000 code=some true:=by
 refine As.true ?_
 unfold Cr
 refine Bi (fun _=>As.some rfl) fun hl=>?_
 rw[Ac] at hl
 refine As.bind (IU hc.1 (by omega) (Nat.le_refl _)) fun z D=>?_
 have L:=D.lz
 have hlen:=D.sm.len
 have hpl:=D.pl
 obtain⟨b,e1,e2,e3⟩:=HO L (Nat.le_refl 2000000)
 rw[e1,e2]
 simp only[Option.bind_some,bne_self_eq_false,Bool.false_eq_true,if_false]
 cases b with
 | false=>exact MG (v:=true) (by simp) rfl
 | true=>
  have V:=e3.1 rfl
  have l1:=P9 D V (Nat.le_refl 2000000) (Nat.zero_le _) (by omega:z.cells.length - 0 < 2000000)
  have l2:=Pu D V (Nat.zero_le _) (by omega:z.pending.length - 0 < 2000000)
  rw[show ((0:Nat):Int)=0 from rfl] at l1 l2
  rw[l1,l2]
  exact MG (v:=true) (by simp) rfl
end RC

