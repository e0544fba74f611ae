import Derived.Test.YthapbpfhdnmboaaGPlainAToZMD

namespace RC
open Go
theorem Qu {z:BJ} (hl:z.cells.length≤1000) {N i:Nat} (hi:i≤z.cells.length) (hN:z.cells.length - i < N) :∀b:Bool,BW z N b (i:Int)=some (b || !DA (z.cells.drop i)):=by
 refine BG z.cells.length (fun N i=>∀b:Bool,BW z N b (i:Int)=some (b || !DA (z.cells.drop i))) ?_ ?_ hi hN
 ·intro n b
  rw[BW,if_neg (by simp[Ae])]
  simp[DA]
 ·intro n i hi ih b
  obtain⟨c,hc,_⟩:=B6 hi
  rw[BW,if_pos (by simp[Ae];omega),BB hc]
  rw[A4 (by omega) (by omega),show ((i:Int) + 1)=((i+1:Nat):Int) by omega]
  have e:DA (z.cells.drop i)=(decide (0≤c.count) && DA (z.cells.drop (i+1))):=by unfold DA;rw[Dt hc]
  cases b with
  | true=>
   simp only[if_true,Option.bind_some]
   rw[ih];rfl
  | false=>
   simp only[Option.bind_some,Bool.false_eq_true,if_false,Bool.false_or,ih,e]
   by_cases h1:c.count < 0
   ·have h2:¬ 0≤c.count:=by omega
    simp[h1,h2]
   ·have h2:0≤c.count:=by omega
    simp[h1,h2]
theorem QE (h:List Cell):LV ⟨h,[]⟩↔DA h=true∧VH h:=by
 unfold LV
 rw[show rs (BJ.mk h []).cells (BJ.mk h []).pending=h from Ml h]
 constructor
 ·rintro⟨_,a,b,_⟩;exact⟨a,b⟩
 ·rintro⟨a,b⟩;exact⟨by simp[EK],a,b,by simp[EK]⟩
theorem IV {code:List Int} (hc:Q5 code):Dv 2000000 code=some true:=by
 refine As.true ?_
 unfold Dv
 refine Be (fun _=>As.some rfl) fun hl=>?_
 rw[Ae] at hl
 refine As.bind (IX hc.1 (by omega) (Nat.le_refl _)) fun z D=>?_
 have L:=D.lz
 have hlen:=D.sm.len
 have H:=L.hp
 have L0:Lz ⟨z.cells,[]⟩:=⟨by have:=H.size;show Bc z.cells+0≤_;omega,H.cells,fun x hx=>by cases hx⟩
 obtain⟨b,e1,e2,e3⟩:=FX L (Nat.le_refl 2000000)
 obtain⟨b0,_,d2,d3⟩:=FX L0 (Nat.le_refl 2000000)
 obtain⟨bv,r,_,_,_,v2,v3,_⟩:=FM H (Nat.le_refl 2000000)
 have k:=Qu (z:=z) (by omega) (Nat.zero_le _) (by omega:z.cells.length - 0 < 2000000) false
 rw[show ((0:Nat):Int)=0 from rfl,List.drop_zero] at k
 rw[e1,e2]
 simp only[Option.bind_some]
 rw[k,d2,v2]
 simp only[Option.bind_some,bne_self_eq_false,Bool.false_eq_true,if_false,Bool.false_or]
 rw[QE] at d3
 refine As.of (v:=true) ?_ rfl
 cases hn:DA z.cells with
 | false=>
  have hb:b=false:=by
   cases hb:b with
   | false=>rfl
   | true=>have:=(e3.1 hb).2.1;rw[hn] at this;cases this
  have hb0:b0=false:=by
   cases hb:b0 with
   | false=>rfl
   | true=>have:=(d3.1 hb).1;rw[hn] at this;cases this
  subst hb;subst hb0
  cases bv <;> rfl
 | true=>
  have hb0:b0=bv:=by
   cases hv:bv with
   | false=>
    cases hb:b0 with
    | false=>rfl
    | true=>have:=v3.2 (d3.1 hb).2;rw[hv] at this;cases this
   | true=>exact d3.2 ⟨hn,v3.1 hv⟩
  subst hb0
  cases b0 <;> cases b <;> rfl
end RC

