import Derived.Test.YtccficmcdkcpnaaGreatNOWalkP3
set_option linter.all false
namespace Go.Proofs.YtccficmcdkcpnaaGreat
open Go Go.Abs RC
attribute [local irreducible] Go.Abs.Dp
set_option maxRecDepth 100000
set_option maxHeartbeats 4000000
theorem nf:HM Tryz.prog 206=true:=by kernel_rfl
theorem fy:HM Tryz.prog 30=true:=by kernel_rfl
theorem mv:HM Tryz.prog 50=true:=by kernel_rfl
theorem nJ:Ig Tryz.prog 206=some [(0,1),(1,1)]:=by kernel_rfl
theorem gb:Ig Tryz.prog 30=some [(0,1),(1,1)]:=by kernel_rfl
theorem my:Ig Tryz.prog 50=some [(0,1),(1,1),(2,1),(3,2)]:=by kernel_rfl
theorem SS:DR Tryz.prog 28=some ⟨50,5,88,[.sl [],.sl [],.int .i64 0,.sl [],.int .i64 0]⟩:=by kernel_rfl
theorem kL:DB Tryz.prog 28=true:=by kernel_rfl
theorem mu:DB Tryz.prog 46=true:=by kernel_rfl
theorem bZ:DB Tryz.prog 78=true:=by kernel_rfl
theorem mw:De Tryz.prog 28=some (false,1):=by kernel_rfl
theorem PT:De Tryz.prog 30=some (true,2):=by kernel_rfl
theorem Zc:De Tryz.prog 50=some (true,5):=by kernel_rfl
theorem nZ:HN Tryz.prog 206=some [.zc,.int .i64 0]:=by kernel_rfl
theorem SE:HN Tryz.prog 30=some [.zc,.zc]:=by kernel_rfl
theorem WI:HN Tryz.prog 50=some [.zc,.zc,.int .i64 0,.zc,.int .i64 0]:=by kernel_rfl
theorem Tt {N:Nat}{p0:AP}{r:Ax×Bool}(h0:IN N p0=some r):Bn 17 [Jn p0.decls p0.funcs] [] (.Dv [.agg (br r.1.decls r.1.AU),.bool r.2]) []:=by
 unfold IN at h0;refine Dd AA (Cx Tryz.func17 AA (Ai λK1 Z=>Et 0 AA (Cn 1 SE AA (AR AA (Ad Z (AD λK2 b0=>Ai λK3 b1=>AR AA (bs h0 λq4 b2 h0=>HX (hb 53) (RQ b2) rfl (AR AA (Ad b1 ?_)))))))));refine Az h0 ?_ ?_<;>intro b5 h0
 ·have b6:q4=false:=by simpa using b5
  refine Ai λK7 b3=>zz (.agg [.zc,.zc]) (DA fy gb SE AA AA) rfl (Bp PT AA (AR AA (Ad b3 ?_)));cases h0;exact Ap ⟨_,(((Hk (id:=1) (cs:=[.zc,.zc]) (cs':=[YX,.zc]) (st':=[Hd p0.decls p0.funcs,⟨0,30,2,[[YX,.zc]]⟩]) rfl ⟨le.zc,le.rfl,pw⟩ AA AA).trans (Hk (id:=1) (cs:=[YX,.zc]) (cs':=dF) (st':=[Hd p0.decls p0.funcs,⟨0,30,2,[dF]⟩]) rfl ⟨le.rfl,le.zc,pw⟩ AA AA)).trans (BH (L:=(iG [])) (st':=[⟨0,30,2,[dF]⟩]) [1] (.w .nil) ⟨.rfl,.rfl,pw⟩)).trans (Dh (iG []) ⟨.rfl,.rfl,pw⟩),Gw (.tmp 2) dF PT AA _ AA⟩
 ·have b8:q4=true:=by simpa using b5
  refine AH (b0 _ (Ai λK9 b4=>Ae 2 AA (bs h0 λc C h0=>La (ow 2 0 c) (Cl.RV C) ⟨pn,pw⟩ (zz (.agg [ow 2 0 c,.zc]) (DA fy gb SE AA AA) rfl (Cn 3 SE AA (BD (Wk.oT (L:=[(1,Aq),(2,DW),(4,G1),(18,.agg [Cd c,.zc])]) (st':=[Hd p0.decls p0.funcs,MR,QL,MR]) (id:=2) rfl (show 0<=2 by decide) (Go.Abs.Q4 Cv) ⟨.rfl,.rfl,.rfl,(.agg ⟨(.R8 AA (λx=>ax x)),.rfl,pw⟩),pw⟩ AA) (Bp PT AA (Ad b4 (AD λb7 D=>Ai λc2 E=>Ae 2 AA (Cc AA (AR AA (Ad E (bs h0 λz e h0=>?_)))))))))))));have b9:∀{g},JJ z g ⟨67,AL [(2,Aq),(4,DW)],fA c g⟩ b7:=by
   rintro _ ⟨⟩ s hw;refine D _ (AF hw (Ai λc3 F=>AR AA (D8 [(2,Aq),(66,.agg (br c z))] [MR,Y2 c z,⟨1,50,5,[]⟩] 2 AA ⟨.rfl,.agg ⟨.rfl,.Gs AA,pw⟩,pw⟩ Cv AA (Bp PT AA (AR AA (Ad F ?_))))));cases h0;exact Ap ⟨_,(BH (L:=[(2,Aq),(3,.bool true)]) (st':=[Vx c z]) [0] (.w .nil) ⟨.rfl,.rfl,pw⟩).trans (Dh [(2,Aq),(3,.bool true)] ⟨.rfl,.rfl,pw⟩),Gw (.tmp 2) (br c z) PT AA _ AA⟩
  refine AJ (KB (FG N p0) (λh d=>⟨67,AL [(1,.ptr 0 0 0 0),(2,.ptr 1 0 0 0),(4,.ptr 2 0 0 0),(20,ls Bd p0.funcs),(21,i64 (Sh.len p0.funcs)),(22,i64 h)],[Hd p0.decls p0.funcs,MR,⟨0,30,2,[[ls Ak c,ow 3 0 d]]⟩,ro 0 50 5 DH d]⟩) N 0 [] e (by refine Wk.trans (Jf (id:=3) (st':=[Hd p0.decls p0.funcs,MR,⟨1,104,3,[]⟩,⟨0,30,2,[[ls Ak c,.own 4 0 (List.length ([]:List CQ))]]⟩,ro 0 50 5 DH ([]:List CQ)]) (j:=1) rfl AA 50 (size':=5) (by decide) rfl AA AA AA) ?_;exact G2 (L:=[(1,.ptr 0 0 0 0),(2,.ptr 1 0 0 0),(4,.ptr 2 0 0 0),(20,ls Bd p0.funcs),(21,i64 (Sh.len p0.funcs)),(22,i64 0)]) (st':=[Hd p0.decls p0.funcs,MR,⟨0,30,2,[[ls Ak c,.own 3 0 (List.length ([]:List CQ))]]⟩,ro 0 50 5 DH ([]:List CQ)]) (st1:=[Hd p0.decls p0.funcs,MR,⟨0,30,2,[[ls Ak c,.own 4 0 (List.length ([]:List CQ))]]⟩,ro 0 50 5 DH ([]:List CQ)]) [0,1,3,4] (.w (.w (.w (.p .nil)))) (.same AA)) ?_);intro n h d e;rw[FG]at e;refine Al AA (AD λc4 H=>?_);refine Az e ?_ ?_<;>intro c5 e
  ·refine AH (H _ (AD λc6 I=>AJ (Ai λc7 J=>bs e λa K e=>Gz Ee K AA (AR AA (Cn 4 PZ AA (Bp Mf AA (Ad J (Ai λc8 M=>Ae 4 AA (Cc AA (zz (.agg [Cd p0.decls,Cb a.params,.zc]) (DA kS lC WU AA AA) rfl (Cn 5 WU AA (Bp mm AA (Ad M (Ai λc9 O=>Ae 2 AA (Cc AA (bs e λq P e=>XP (m:=6) (enc:=eI) (u:=0) AT BE AA AA AA P AA AA (AR AA (Ad O (AD λc0 Q=>Ai λd0 R=>AR AA (zz (Cb q) (C9 FY AA AA AA) rfl (AR AA (Ad R (bs e λA t e=>?_)))))))))))))))))))))));have c1:∀{k},JJ A k ⟨67,AL [(1,Aq),(2,DW),(4,Ca),(6,Pd),(7,Yo),(8,ow 6 0 k),(20,ls Bd p0.funcs),(21,Cb p0.funcs),(22,i64 h)],((Hd p0.decls p0.funcs)::ij c d [dI a.params a.result a.body.op a.body.num a.body.kids,⟨0,92,3,[[Cd p0.decls,Cb a.params,.zc]]⟩,BP k])⟩ c0:=by
    rintro _ ⟨⟩ s hw;refine Q _ (AF hw (Ai λd1 S=>Ae 3 AA (BD (Jf (id:=5) (st':=((Hd p0.decls p0.funcs)::ij c d [dI a.params a.result a.body.op a.body.num a.body.kids,ny p0.decls a.params,BP A,Y7])) (j:=2) rfl AA 80 (size':=5) (by decide) rfl AA AA AA) (D8 [(1,Aq),(2,DW),(4,Ca),(6,Pd),(7,Yo),(20,ls Bd p0.funcs),(21,Cb p0.funcs),(22,i64 h),(47,BJ a.body.op a.body.num a.body.kids),(48,ls eI A)] ((Hd p0.decls p0.funcs)::ij c d [dI a.params a.result a.body.op a.body.num a.body.kids,ny p0.decls a.params,⟨1,3,1,[]⟩,Y7]) 6 AA ⟨.rfl,.rfl,.rfl,.rfl,.rfl,.rfl,.rfl,.rfl,.rfl,.Bg AA,pw⟩ Cv AA (bs e λb T e=>?_)))));refine DX (rowsP:=[ny p0.decls a.params,Y7]) (rows0:=[⟨0,92,3,[[Cd p0.decls,Cb a.params,ni]]⟩,Y7]) (rows1:=[PA p0.decls b.2.1 b.2.2,Ct]) (rows2:=[Ck b.2.2]) (rows1':=[⟨0,92,3,[[Cd p0.decls,i64 b.2.1,ow 8 0 b.2.2]]⟩,Ct]) (rows2':=[Ck b.2.2]) (st':=((Hd p0.decls p0.funcs)::ij c d [dI a.params a.result a.body.op a.body.num a.body.kids,⟨0,92,3,[[Cd p0.decls,i64 b.2.1,ow 8 0 b.2.2]]⟩,⟨1,3,1,[]⟩,Ct,Ck b.2.2])) (v':=(i64 b.1)) [5,7] AT (hb 55) (RE T) rfl (by decide) rfl AA (.raw AA AA (.pure (AM Ab) .nil)) rfl AA (.raw AA AA (.pure nN .nil)) (.pure (AM Ab) .nil) rfl AA ?_;refine AR AA (Ad S ?_);refine AF (Wk.ly (id:=5) (m:=8) (i:=0) (j:=2) (st':=[Hd p0.decls p0.funcs,MR,⟨0,30,2,[[ls Ak c,ow 3 0 d]]⟩,ro 0 50 5 DH d,dI a.params a.result a.body.op a.body.num a.body.kids,⟨0,92,3,[[ls Ak p0.decls,i64 b.2.1,ls C8 b.2.2]]⟩,⟨1,3,1,[]⟩,⟨1,80,5,[]⟩,⟨1,80,5,[]⟩]) rfl AA AA AA (by simp) (by decide) (show 0<=8 by decide) (AM Ab) rfl) ?_;refine Bu 13 (by kernel_rfl) (by kernel_rfl) (by rfl) ?_;iterate 4 refine yq tb rfl ?_
    refine bs e λo U e=>?_;refine Fa (BS.wk (Bc U) (by refine Wk.trans (Wk.Bg (L:=[(0,ls eI o)]) (st':=S6) (id:=0) rfl tw Bf ⟨.Bg AA,pw⟩ AA) ?_;exact BH [] .nil (.same AA))) ?_;iterate 5 refine yq tb rfl ?_
    refine yz (.agg (gx b.2.2 b.1)) (DA jz kF Rj AA AA) rfl (yz (.agg [ls eI o,.zc,i64 a.result,ls C8 b.2.2,i64 b.1]) (DA mv my WI AA AA) rfl (np (l:=([CQ.mk o [] a.result (Block.mk b.2.2 b.1)])) (enc:=DH) (pv':=[(0,.agg [ls eI o,Sv,i64 a.result,ls C8 b.2.2,i64 b.1])]) AT SS (by decide) rfl AA (.cons (le.agg ⟨le.rfl,le.zc,le.rfl,le.rfl,le.rfl,pw⟩) .nil) rfl AA AA Bf (Ao (bs e λV W e=>Lb ([CQ.mk o [] a.result (Block.mk b.2.2 b.1)]) SS AA N8 W (AR AA (Bp mw AA (Ad I (AE AA (Ae 2 AA ?_)))))))));exact AB (xi (Sh.w (h+1),V) e (by refine Wk.trans (Eh (L:=[(1,Aq),(2,DW),(4,Ca),(20,ls Bd p0.funcs),(21,Cb p0.funcs),(22,Kp h)]) (st':=((Hd p0.decls p0.funcs)::ij c V [dI a.params a.result a.body.op a.body.num a.body.kids,⟨0,92,3,[[Cd p0.decls,i64 b.2.1,ls C8 b.2.2]]⟩,⟨0,3,1,[]⟩,⟨0,80,5,[]⟩,⟨0,80,5,[]⟩])) (.raw AA AA (.raw AA AA (.raw AA AA (.pure Bf (.raw AA AA (.raw AA AA (.pure nN (.pure nN (.pure nN .nil))))))))) (.same AA)) ?_;exact BH [0,1,2,3] (.w (.w (.w (.p .nil)))) (.same AA)))
   refine AJ (KB (FK q) (λf p=>⟨67,AL [(1,.ptr 0 0 0 0),(2,.ptr 1 0 0 0),(4,.ptr 2 0 0 0),(6,.ptr 4 0 0 0),(7,.ptr 5 0 0 0),(8,ow 6 0 p),(20,ls Bd p0.funcs),(21,i64 (Sh.len p0.funcs)),(22,i64 h),(37,i64 (Sh.len q)),(38,i64 f)],[Hd p0.decls p0.funcs,MR,⟨0,30,2,[[ls Ak c,ow 3 0 d]]⟩,ro 0 50 5 DH d,dI a.params a.result a.body.op a.body.num a.body.kids,⟨0,92,3,[[ls Ak p0.decls,i64 (Sh.len a.params),.zc]]⟩,ro 0 3 1 eI p]⟩) N 0 q t Au ?_);intro n f p t;rw[FK]at t;refine Al AA (AD λd2 X=>?_);refine Az t ?_ ?_<;>intro d3 t
   ·refine AH (X _ (AD λd4 Y=>AJ (Al AA (AE AA (Ae 3 AA (bs t λd5 y t=>zz (.ptr 6 0 (Int.toNat f) 0) (HC BE AA y) rfl (Ll (u':=f) AT HP AA AA y AA AA AA uC rfl AA (Ad Y (AE AA (Ae 2 AA ?_))))))))));exact AB (xi (Sh.w (f+1),Sh.put p f f) t (Dh [(1,.ptr 0 0 0 0),(2,.ptr 1 0 0 0),(4,.ptr 2 0 0 0),(6,.ptr 4 0 0 0),(7,.ptr 5 0 0 0),(8,.own 6 0 (List.length (Sh.put p f f))),(20,.sl (List.map Bd p0.funcs)),(21,i64 (Sh.len p0.funcs)),(22,i64 h),(37,i64 (Sh.len q)),(38,i64 (Sh.w (f+1)))] ⟨.rfl,.rfl,.rfl,.rfl,.rfl,(.len (by simp only[Sh.H0])),.rfl,.rfl,.rfl,.rfl,.rfl,pw⟩))
   ·exact As (c1 t Au)
  ·exact As (b9 e (G2 (L:=[(2,Aq),(4,DW)]) (st':=(fA c d)) (st1:=(ij c d [])) [1,2,3] (.w (.w (.p .nil))) (.same AA)))
theorem PI {N:Nat}{p0:(List AI)}{p1:(List Int)}{r:Bool}(h0:JI N p0 p1=some r):Bn 175 [Cd p0,ls eI p1] [] (.bool r) []:=by
 unfold JI at h0;refine Cx Tryz.func175 AA (Al AA (AD λo h=>Al AA ?_));obtain⟨i,a,h0⟩:=Sh.BZ h0;have p:JJ i (.inr ()) ⟨20,AL [],[]⟩ o:=by
  rintro⟨⟩ s q;refine h _ (AF q (Al AA ?_));cases h0;exact rt [(4,.bool true)]
 refine AJ (Le (Gd p0 p1) (λj=>⟨20,AL [(0,ls Ak p0),(1,ls eI p1),(5,i64 j)],[]⟩) N 0 a Au ?_);intro n j a;rw[Gd]at a;refine AD λB k=>Ai λC l=>Ae 2 AA (Cc AA (AR AA (Ad l ?_)));refine Az a ?_ ?_<;>intro D a
 ·refine AH (k _ (AD λt b=>AJ (Ai λu c=>Ae 2 AA (bs a λx d a=>Gz BE d AA (Ae 2 AA (Cc AA (bs a λe f a=>HX (hb 174) (EN f) rfl (AR AA (Ad c ?_)))))))));refine Az a ?_ ?_<;>intro g a
  ·have y:e=false:=by simpa using g
   refine Al AA ?_;cases a;cases h0;exact rt [(4,.bool false)]
  ·have z:e=true:=by simpa using g
   exact AH (b _ (AE AA (Ae 3 AA (AB (xi (Sh.w (j+1)) a Au)))))
 ·exact As (p a Au)
theorem Tw {N:Nat}{p0:(List AI)}{p1:Int}{r:Bool}(h0:Jq N p0 p1=some r):Bn 232 [Cd p0,i64 p1] [] (.bool r) []:=by
 unfold Jq at h0;refine Cx Tryz.func232 AA (Al AA (Ai λK2 Y=>Ae 2 AA (bs h0 λk Z h0=>Gz DZ Z AA (AR AA (Cn 0 Ev AA (Bp Hl AA (Ad Y (AD λK4 b0=>Ai λK5 b1=>Ae 2 AA (Cc AA (AR AA (Ad b1 ?_)))))))))));refine Az h0 ?_ ?_<;>intro b6 h0
 ·refine AD λK7 b2=>AD λK8 b3=>bs h0 λC a h0=>?_;have t:∀{t9},JJ C t9 ⟨100,AL [(0,Cd p0),(5,Aq),(29,.bool t9)],[Xv k]⟩ K8:=by
   rintro _ ⟨⟩ s i;refine b3 _ (AF i ?_);refine Az h0 ?_ ?_<;>intro c6 h0
   ·refine Al AA ?_;cases h0;exact rd [(4,.bool false)]
   ·refine AH (b2 _ (AD λb4 E=>Al AA ?_));obtain⟨u,a,h0⟩:=Sh.BZ h0;have b5:JJ u (.inr ()) ⟨100,AL [],[]⟩ b4:=by
     rintro⟨⟩ s i;refine E _ (AF i (Al AA ?_));cases h0;exact rt [(4,.bool true)]
    refine AJ (Le (GJ N k p0) (λl=>⟨100,AL [(0,ls Ak p0),(5,.ptr 0 0 0 0),(6,i64 l)],[⟨0,104,3,[Ak k]⟩]⟩) N 0 a Au ?_);intro n l a;rw[GJ]at a;refine AD λc7 G=>Ai λc8 H=>Ae 3 AA (Cc AA (AR AA (Ad H ?_)));refine Az a ?_ ?_<;>intro c9 a
    ·refine AH (G _ (AD λd1 I=>AJ (AD λb7 J=>bs a λK c a=>?_)));have L:∀{x},JJ K x ⟨100,AL [(0,Cd p0),(5,Aq),(6,i64 l),(55,.bool x)],[Xv k]⟩ b7:=by
      rintro _ ⟨⟩ s i;refine J _ (AF i ?_);refine Az a ?_ ?_<;>intro d2 a
      ·refine Al AA ?_;cases a;cases h0;exact rd [(4,.bool false)]
      ·exact AH (I _ (AE AA (Ae 3 AA (AB (xi (Sh.w (l+1)) a Au)))))
     refine AE AA (Ae 3 AA (bs c λb8 q c=>Gz Hg q AA (Ae 2 AA (Cc AA (Ae 2 AA ?_)))));rcases Sh.Aa c with ⟨b,c⟩|⟨b,c⟩
     ·refine zs b AA ?_;iterate 8 refine zs b rfl ?_
      exact zt b AA (AB (L c Au))
     ·refine Am b AA ?_;iterate 3 refine Am b rfl ?_
      exact DQ (.CT (CP b8) 0) b (JT Hg AA q) (Am b AA (Am b AA (bs c λb9 M c=>Oz b (PI M) rfl (Am b AA (zf b AA (AB (L c Au)))))))
    ·exact As (b5 a (Bi _ AA))
  refine AE AA (Ae 2 AA (Cc AA (Ae 2 AA ?_)));rcases Sh.Aa a with ⟨e,a⟩|⟨e,a⟩
  ·refine zs e AA (zs e AA (zs e AA (zt e AA (AR AA ?_))));iterate 3 refine zs rfl rfl ?_
   exact zt AA AA (AB (t a Au))
  ·refine Am e AA (Am e AA (Am e AA (zf e AA (AR AA ?_))));rcases Sh.Aa a with ⟨f,a⟩|⟨f,a⟩
   ·exact zs f AA (zs f AA (zs f AA (zt f AA (AB (t a Au)))))
   ·exact Am f AA (Am f AA (Am f AA (zf f AA (AB (t a Au)))))
 ·refine AH (b0 _ (AD λc0 O=>Al AA ?_));obtain⟨y,a,h0⟩:=Sh.BZ h0;have c1:JJ y (.inr ()) ⟨100,AL [(0,Cd p0),(5,Aq)],[Xv k]⟩ c0:=by
   rintro⟨⟩ s i;refine O _ (AF i (AD λc2 P=>bs h0 λQ a h0=>?_));have R:∀{o},JJ Q o ⟨100,AL [(4,.bool o)],[]⟩ c2:=by
    rintro _ ⟨⟩ s i;try dsimp only at h0
    refine P _ (AF i ?_);obtain rfl:=Sh.Bt h0;exact rt [(4,.bool Q)]
   refine AE AA (Ae 3 AA (Cc AA (bs a λd3 S a=>HX (hb 174) (EN S) rfl (AR AA ?_))));rcases Sh.Aa a with ⟨d,a⟩|⟨d,a⟩
   ·exact Am d AA (Am d AA (Am d AA (DQ (Cb p0) d (By Ui AA) (bs a λc4 T a=>Oz d (EN T) rfl (zt d AA (AR AA (AB (R a (Bi _ AA)))))))))
   ·refine zs d AA ?_;iterate 4 refine zs d rfl ?_
    exact zf d AA (AR AA (AB (R a (Bi _ AA))))
  refine AJ (Le (GI k p0 p1) (λp=>⟨100,AL [(0,ls Ak p0),(1,i64 p1),(5,.ptr 0 0 0 0),(7,i64 p)],[⟨0,104,3,[Ak k]⟩]⟩) N 0 a Au ?_);intro n p a;rw[GI]at a;refine AD λd4 U=>Al AA ?_;refine Az a ?_ ?_<;>intro d5 a
  ·refine AH (U _ (AD λd6 V=>AJ (AD λc5 W=>bs a λX c a=>?_)));have z:∀{A},JJ X A ⟨100,AL [(0,Cd p0),(1,i64 p1),(5,Aq),(7,i64 p),(87,.bool A)],[Xv k]⟩ c5:=by
    rintro _ ⟨⟩ s i;refine W _ (AF i ?_);refine Az a ?_ ?_<;>intro d7 a
    ·refine Al AA ?_;cases a;cases h0;exact rd [(4,.bool false)]
    ·exact AH (V _ (AE AA (Ae 3 AA (AB (xi (Sh.w (p+1)) a Au)))))
   refine CZ (by kernel_rfl) (by kernel_rfl) (by rfl) ?_;iterate 2 refine yq tb rfl ?_
   refine bs c λB j c=>Mt DZ j AA ?_;iterate 2 refine yq tb rfl ?_
   refine yl tb AA AA ?_;iterate 2 refine yq tb rfl ?_
   rcases Sh.Aa c with ⟨g,c⟩|⟨g,c⟩
   ·refine yg tb g AA (yg tb g AA (I7 (v:=(UU B)) (GF AA AA g) rfl (JT DZ AA j) ?_));iterate 5 refine yg tb g rfl ?_
    refine yt g AA (yq tb AA ?_);rcases Sh.Aa c with ⟨h,c⟩|⟨h,c⟩
    ·refine yg tb h AA (yg tb h AA (I7 (v:=(UU B)) (GF AA AA h) rfl (JT DZ AA j) ?_));iterate 5 refine yg tb h rfl ?_
     exact yt h AA (Ao (z c Au))
    ·refine ys h AA ?_;iterate 7 refine ys h rfl ?_
     exact yf h AA (Ao (z c Au))
   ·refine ys g AA ?_;iterate 7 refine ys g rfl ?_
    refine yf g AA (yq tb AA ?_);iterate 8 refine ys rfl rfl ?_
    exact yf AA AA (Ao (z c Au))
  ·exact As (c1 a Au)
theorem Sw {N:Nat}{p0:(List AI)}{r:Bool}(h0:JH N p0=some r):Bn 173 [Cd p0] [] (.bool r) []:=by
 unfold JH at h0;refine Cx Tryz.func173 AA (Al AA (AD λD j=>Ai λE k=>AR AA (Cc AA (AR AA (Ad k ?_)))));refine Az h0 ?_ ?_<;>intro F h0
 ·refine Al AA ?_;cases h0;exact rt [(2,.bool false)]
 ·refine AH (j _ (AD λq l=>Al AA ?_));obtain⟨b,a,h0⟩:=Sh.BZ h0;have m:JJ b (.inr ()) ⟨17,AL [],[]⟩ q:=by
   rintro⟨⟩ s t;refine l _ (AF t (Al AA ?_));cases h0;exact rt [(2,.bool true)]
  refine AJ (Le (Fh N p0) (λo=>⟨17,AL [(0,ls Ak p0),(3,i64 o)],[]⟩) N 0 a Au ?_);intro n o a;rw[Fh]at a;refine AD λu c=>Ai λx d=>Ae 2 AA (Cc AA (AR AA (Ad d ?_)));refine Az a ?_ ?_<;>intro y a
  ·refine AH (c _ (AD λz e=>AJ (Ai λA f=>Ae 2 AA (bs a λg h a=>HX (hb 232) (Tw h) rfl (AR AA (Ad f ?_))))));refine Az a ?_ ?_<;>intro i a
   ·have B:g=false:=by simpa using i
    refine Al AA ?_;cases a;cases h0;exact rt [(2,.bool false)]
   ·have C:g=true:=by simpa using i
    exact AH (e _ (AE AA (Ae 3 AA (AB (xi (Sh.w (o+1)) a Au)))))
  ·exact As (m a Au)
theorem Tq {N:Nat}{p0:AP}{r:Bool}(h0:HY N p0=some r):Bn 108 [Jn p0.decls p0.funcs] [] (.bool r) []:=by
 unfold HY at h0;refine Cx Tryz.func108 AA (Ai λK1 I=>Et 0 AA (AR AA (Ad I (AD λK2 J=>AD λX K=>bs h0 λU a h0=>?_))));have V:∀{L},JJ U L ⟨64,AL [(1,Aq),(15,.bool L)],[Hd p0.decls p0.funcs]⟩ X:=by
  rintro _ ⟨⟩ s j;refine K _ (AF j ?_);refine Az h0 ?_ ?_<;>intro b6 h0
  ·refine Al AA ?_;cases h0;exact rd [(2,.bool false)]
  ·refine AH (J _ (AD λY O=>Al AA ?_));obtain⟨k,a,h0⟩:=Sh.BZ h0;have P:JJ k (.inr ()) ⟨64,AL [(1,Aq)],[Hd p0.decls p0.funcs]⟩ Y:=by
    rintro⟨⟩ s j;refine O _ (AF j (AD λQ p=>bs h0 λq a h0=>?_));have t:∀{g},JJ q g ⟨64,AL [(2,.bool g)],[]⟩ Q:=by
     rintro _ ⟨⟩ s j;try dsimp only at h0
     refine p _ (AF j ?_);obtain rfl:=Sh.Bt h0;exact rt [(2,.bool q)]
    refine AE AA (Ae 2 AA (bs a λu i a=>Gz Ee i AA (Ae 2 AA (Cc AA (Ae 2 AA ?_)))));rcases Sh.Aa a with ⟨d,a⟩|⟨d,a⟩
    ·refine Am d AA (Am d AA (DQ (Z7 u) d (JT Ee AA i) ?_));iterate 3 refine Am d rfl ?_
     exact zt d AA (AR AA (AB (t a (Bi _ AA))))
    ·refine zs d AA ?_;iterate 5 refine zs d rfl ?_
     exact zf d AA (AR AA (AB (t a (Bi _ AA))))
   refine AJ (Le (FM N p0) (λh=>⟨64,AL [(1,.ptr 0 0 0 0),(3,i64 h)],[Hd p0.decls p0.funcs]⟩) N 0 a Au ?_);intro n h a;rw[FM]at a;refine AD λZ x=>Ai λb0 y=>Ae 3 AA (Cc AA (AR AA (Ad y ?_)));refine Az a ?_ ?_<;>intro b1 a
   ·refine AH (x _ (AD λb2 z=>AJ (Ai λb3 A=>Ae 3 AA (bs a λb4 B a=>Gz Ee B AA (AR AA (Cn 1 PZ AA (Bp Mf AA (Ad A (AD λR C=>bs a λD f a=>?_)))))))));have l:∀{o},JJ D o ⟨64,AL [(1,Aq),(3,i64 h),(48,.bool o)],[Hd p0.decls p0.funcs]⟩ R:=by
     rintro _ ⟨⟩ s j;refine C _ (AF j ?_);refine Az a ?_ ?_<;>intro b5 a
     ·refine Al AA ?_;cases a;cases h0;exact rd [(2,.bool false)]
     ·exact AH (z _ (AE AA (Ae 3 AA (AB (xi (Sh.w (h+1)) a Au)))))
    refine AE AA (Ae 2 AA (Cc AA (Ae 2 AA ?_)));rcases Sh.Aa f with ⟨e,f⟩|⟨e,f⟩
    ·refine zs e AA ?_;iterate 5 refine zs e rfl ?_
     refine zt e AA (AR AA ?_);iterate 7 refine zs rfl rfl ?_
     exact zt AA AA (AB (l f (BH [0] (.w .nil) (.same AA))))
    ·refine Am e AA ?_;iterate 3 refine Am e rfl ?_
     refine bs f λb7 E f=>Oz e (PI E) rfl (Am e AA (zf e AA (AR AA ?_)));rcases Sh.Aa f with ⟨b,f⟩|⟨b,f⟩
     ·refine zs b AA ?_;iterate 6 refine zs b rfl ?_
      exact zt b AA (AB (l f (BH [0] (.w .nil) (.same AA))))
     ·refine Am b AA ?_;iterate 3 refine Am b rfl ?_
      exact DQ (Cb p0.decls) b (By Ui AA) (bs f λS F f=>Oz b (EN F) rfl (Am b AA (zf b AA (AB (l f (BH [0] (.w .nil) (.same AA)))))))
   ·exact As (P a Au)
 refine AE AA (Ae 2 AA (bs a λb8 G a=>HX (hb 173) (Sw G) rfl (Ae 2 AA ?_)));rcases Sh.Aa a with ⟨c,a⟩|⟨c,a⟩
 ·refine zs c AA ?_;iterate 4 refine zs c rfl ?_
  exact zt c AA (AB (V a Au))
 ·exact Am c AA (Am c AA (DQ (Cb p0.funcs) c (By Zd AA) (bs a λT H a=>Oz c (EN H) rfl (Am c AA (zf c AA (AB (V a Au)))))))
theorem QG {N:Nat}{uY:AP->(List Int)->AG->Option (Int)}(uq :∀{p0:AP} {p1:(List Int)} {p2:AG} {r:Int},uY p0 p1 p2=some r->Bn 110 (YS p0.decls p0.funcs p1 p2.op p2.num p2.kids) [] (i64 r) []){p0:AP}{p1:(List Int)}{p2:(List AG)}{p3:Int}{r:Bool}(h0:J2 N uY p0 p1 p2 p3=some r):Bn 177 [Jn p0.decls p0.funcs,ls eI p1,JU p2,i64 p3] [] (.bool r) []:=by
 unfold J2 at h0;refine Cx Tryz.func177 AA (Ai λG l=>Et 0 AA (AR AA (Ad l (AD λH o=>Ai λI p=>AR AA (Cc AA (Ae 2 AA (Ad p ?_)))))));refine Az h0 ?_ ?_<;>intro u h0
 ·have J:decide ((Sh.len p2)=p3)=false:=by simpa using u
  refine Al AA ?_;cases h0;exact rd [(8,.bool false)]
 ·have K:decide ((Sh.len p2)=p3)=true:=by simpa using u
  refine AH (o _ (AD λy q=>Al AA ?_));obtain⟨b,a,h0⟩:=Sh.BZ h0;have t:JJ b (.inr ()) ⟨27,AL [],[]⟩ y:=by
   rintro⟨⟩ s z;refine q _ (AF z (Al AA ?_));cases h0;exact rt [(8,.bool true)]
  refine AJ (Le (G8 p0 p1 p2 p3 uY) (λc=>⟨27,AL [(1,ls eI p1),(2,ls BI p2),(3,i64 p3),(4,.ptr 0 0 0 0),(9,i64 c)],[Hd p0.decls p0.funcs]⟩) N 0 a Au ?_);intro n c a;rw[G8]at a;refine AD λA f=>Al AA ?_;refine Az a ?_ ?_<;>intro B a
  ·refine AH (f _ (AD λC g=>AJ (AD λD h=>CZ (by kernel_rfl) (by kernel_rfl) (by rfl) ?_)));iterate 4 refine yq tb rfl ?_
   refine bs a λd i a=>yz (Cz d.op d.num d.kids) (CI Bq AA AA i (Aj _) rfl) rfl (yq tb AA (bs a λe j a=>Fa (uq j) (yq tb AA (Ao (h _ ?_)))));refine Az a ?_ ?_<;>intro k a
   ·have E:decide (e=0)=false:=by simpa using k
    refine Al AA ?_;cases a;cases h0;exact rd [(8,.bool false)]
   ·have F:decide (e=0)=true:=by simpa using k
    exact AH (g _ (AE AA (Ae 3 AA (AB (xi (Sh.w (c+1)) a Au)))))
  ·exact As (t a (Bi _ AA))
theorem Om {N:Nat}{uY:AP->(List Int)->AG->Option (Int)}(uq :∀{p0:AP} {p1:(List Int)} {p2:AG} {r:Int},uY p0 p1 p2=some r->Bn 110 (YS p0.decls p0.funcs p1 p2.op p2.num p2.kids) [] (i64 r) []){p0:AP}{p1:(List Int)}{p2:(List AG)}{p3:(List Int)}{r:Bool}(h0:Ki N uY p0 p1 p2 p3=some r):Bn 179 [Jn p0.decls p0.funcs,ls eI p1,JU p2,ls eI p3] [] (.bool r) []:=by
 unfold Ki at h0;refine Cx Tryz.func179 AA (Ai λK q=>Et 0 AA (AR AA (Ad q (AD λL t=>Ai λM u=>AR AA (Cc AA (AR AA (Cc AA (AR AA (Ad u ?_)))))))));refine Az h0 ?_ ?_<;>intro z h0
 ·have O:decide ((Sh.len p2)=(Sh.len p3))=false:=by simpa using z
  refine Al AA ?_;cases h0;exact rd [(8,.bool false)]
 ·have P:decide ((Sh.len p2)=(Sh.len p3))=true:=by simpa using z
  refine AH (t _ (AD λB x=>Al AA ?_));obtain⟨b,a,h0⟩:=Sh.BZ h0;have y:JJ b (.inr ()) ⟨33,AL [],[]⟩ B:=by
   rintro⟨⟩ s C;refine x _ (AF C (Al AA ?_));cases h0;exact rt [(8,.bool true)]
  refine AJ (Le (IB p0 p1 p2 p3 uY) (λc=>⟨33,AL [(1,ls eI p1),(2,ls BI p2),(3,ls eI p3),(4,.ptr 0 0 0 0),(9,i64 c)],[Hd p0.decls p0.funcs]⟩) N 0 a Au ?_);intro n c a;rw[IB]at a;refine AD λD f=>Ai λE g=>Ae 2 AA (Cc AA (AR AA (Ad g ?_)));refine Az a ?_ ?_<;>intro F a
  ·refine AH (f _ (AD λG h=>AJ (AD λH i=>CZ (by kernel_rfl) (by kernel_rfl) (by rfl) ?_)));iterate 4 refine yq tb rfl ?_
   refine bs a λd j a=>yz (Cz d.op d.num d.kids) (CI Bq AA AA j (Aj _) rfl) rfl (yq tb AA (bs a λe k a=>Fa (uq k) ?_));iterate 2 refine yq tb rfl ?_
   refine bs a λl o a=>Mt BE o AA ?_;iterate 2 refine yq tb rfl ?_
   refine Ao (i _ ?_);refine Az a ?_ ?_<;>intro p a
   ·have I:decide (e=l)=false:=by simpa using p
    refine Al AA ?_;cases a;cases h0;exact rd [(8,.bool false)]
   ·have J:decide (e=l)=true:=by simpa using p
    exact AH (h _ (AE AA (Ae 3 AA (AB (xi (Sh.w (c+1)) a Au)))))
  ·exact As (y a (Bi _ AA))
theorem Ta {N:Nat}{uY:AP->(List Int)->AG->Option (Int)}(uq :∀{p0:AP} {p1:(List Int)} {p2:AG} {r:Int},uY p0 p1 p2=some r->Bn 110 (YS p0.decls p0.funcs p1 p2.op p2.num p2.kids) [] (i64 r) []){p0:AP}{p1:(List Int)}{p2:AG}{r:Int}(h0:Lq N uY p0 p1 p2=some r):Bn 181 (YS p0.decls p0.funcs p1 p2.op p2.num p2.kids) [] (i64 r) []:=by
 unfold Lq at h0;refine Cx Tryz.func181 AA (Ai λK1 P=>Et 0 AA (Et 1 AA (AR AA (Ad P (Ai λK2 Q=>Ae 4 AA (bs h0 λe R h0=>La (ow 2 0 e) (Jm R) ⟨(Bj λ_=>AA),pw⟩ (AR AA (Ad Q (AD λK4 S=>AD λK5 T=>bs h0 λo7 a h0=>?_)))))))));have U:∀{V},JJ o7 V ⟨79,AL (R4 p1 [(7,ow 2 0 e),(38,.bool V)]),[Hd p0.decls p0.funcs,J9 p2.op p2.num p2.kids,BP e]⟩ K5:=by
  rintro _ ⟨⟩ s W;refine T _ (AF W ?_);refine Az h0 ?_ ?_<;>intro b8 h0
  ·refine Al AA ?_;cases h0;exact rd [(6,i64 (-1))]
  ·refine AH (S _ (AD λb3 p=>Bu 14 (by kernel_rfl) (by kernel_rfl) (by rfl) ?_));iterate 5 refine yq tb rfl ?_
   refine bs h0 λX g h0=>yz lr (HC BE AA g) rfl (yz (i64 X) (CL HP AA AA (CM g) rfl) rfl (bs h0 λY q h0=>Fa (E9 q) (bs h0 λt u h0=>?_)));refine Fa (BS.wk (Eg u) (by refine Wk.trans (Wk.Bg (L:=[(0,ls eI t)]) (st':=S6) (id:=0) rfl tw Bf ⟨.Bg AA,pw⟩ AA) ?_;exact BH [] .nil (.same AA))) ?_;iterate 2 refine yq tb rfl ?_
   refine bs h0 λi x h0=>yz (Cz i.op i.num i.kids) (CI Bq AA AA x (Aj _) rfl) rfl (yq tb AA (bs h0 λd y h0=>Fa (uq y) (Ao (AR AA (Ad p (AD λZ z=>Al AA ?_))))));obtain⟨j,a,h0⟩:=Sh.BZ h0;have b0:JJ j (.inr ()) ⟨79,AL [(8,i64 d)],[]⟩ Z:=by
    rintro⟨⟩ s W;try dsimp only at h0
    refine z _ (AF W (Al AA ?_));obtain rfl:=Sh.Bt h0;exact rt [(6,i64 d)]
   refine AJ (Le (FJ N p0 p1 p2 d e uY) (λf=>⟨79,AL [(1,ls eI p1),(3,.ptr 0 0 0 0),(5,.ptr 1 0 0 0),(7,ow 2 0 e),(8,i64 d),(9,i64 f)],[Hd p0.decls p0.funcs,J9 p2.op p2.num p2.kids,ro 0 3 1 eI e]⟩) N 1 a Au ?_);intro n f a;rw[FJ]at a;refine AD λb4 A=>Ai λb5 B=>Ae 2 AA (zz (Cb e) (C9 FY AA AA AA) rfl (AR AA (Ad B ?_)));refine Az a ?_ ?_<;>intro b6 a
   ·refine AH (A _ (AD λb7 C=>AJ (AD λb9 D=>Bu 18 (by kernel_rfl) (by kernel_rfl) (by rfl) ?_)));iterate 6 refine yq tb rfl ?_
    refine bs a λb1 h a=>yz (.ptr 2 0 (Int.toNat f) 0) (HC BE AA h) rfl (yz (i64 b1) (CL HP AA AA (CM h) rfl) rfl (bs a λb2 E a=>Fa (E9 E) (bs a λF G a=>?_)));refine Fa (BS.wk (Eg G) (by refine Wk.trans (Wk.Bg (L:=[(0,ls eI F)]) (st':=S6) (id:=0) rfl tw Bf ⟨.Bg AA,pw⟩ AA) ?_;exact BH [] .nil (.same AA))) ?_;iterate 4 refine yq tb rfl ?_
    refine bs a λk H a=>yz (Cz k.op k.num k.kids) (CI Bq AA AA H (Aj _) rfl) rfl (yq tb AA (bs a λl I a=>Fa (uq I) (yq tb AA (Ao (AR AA (Ad D ?_))))));refine Az a ?_ ?_<;>intro J a
    ·have c0:decide (l=d)=false:=by simpa using J
     refine Al AA ?_;cases a;cases h0;exact rd [(6,i64 (-1))]
    ·have c1:decide (l=d)=true:=by simpa using J
     exact AH (C _ (AE AA (Ae 3 AA (AB (xi (Sh.w (f+1)) a Au)))))
   ·exact As (b0 a (Bi _ AA))
 refine CZ (by kernel_rfl) (by kernel_rfl) (by rfl) (yq tb AA (yz (Cb e) (C9 FY AA AA AA) rfl ?_));iterate 2 refine yq tb rfl ?_
 rcases Sh.Aa a with ⟨b,a⟩|⟨b,a⟩
 ·refine ys b AA ?_;iterate 6 refine ys b rfl ?_
  refine yt b AA (yq tb AA ?_);iterate 10 refine ys rfl rfl ?_
  exact yt AA AA (Ao (U a Au))
 ·refine yg tb b AA (yg tb b AA (I7 (v:=(Cb p2.kids)) (GF AA AA b) rfl (By Zv AA) (yg tb b AA (I7 (v:=(Cb e)) (GF AA AA b) rfl (C9 FY AA AA AA) ?_))));iterate 2 refine yg tb b rfl ?_
  refine yf b AA (yq tb AA ?_);rcases Sh.Aa a with ⟨c,a⟩|⟨c,a⟩
  ·refine ys c AA ?_;iterate 9 refine ys c rfl ?_
   exact yt c AA (Ao (U a Au))
  ·refine yg tb c AA ?_;iterate 3 refine yg tb c rfl ?_
   refine bs a λo K a=>I7 (v:=(Cz o.op o.num o.kids)) (GF AA AA c) rfl (CI Bq AA AA K (Aj _) rfl) (yg tb c AA (bs a λM O a=>Ls (v:=(i64 M)) (GF AA AA c) (hb 110) (uq O) rfl AA AA ?_));iterate 3 refine yg tb c rfl ?_
   exact yf c AA (Ao (U a Au))
theorem T0 {N:Nat}{uY:AP->(List Int)->AG->Option (Int)}(uq :∀{p0:AP} {p1:(List Int)} {p2:AG} {r:Int},uY p0 p1 p2=some r->Bn 110 (YS p0.decls p0.funcs p1 p2.op p2.num p2.kids) [] (i64 r) []){p0:AP}{p1:(List Int)}{p2:AG}{r:Int}(h0:HG N uY p0 p1 p2=some r):Bn 182 (YS p0.decls p0.funcs p1 p2.op p2.num p2.kids) [] (i64 r) []:=by
 unfold HG at h0;refine Cx Tryz.func182 AA (Ai λK1 E=>Et 0 AA (Et 1 AA (AR AA (Ad E (AD λK2 F=>Ai λK3 G=>Ae 4 AA (Cc AA (AR AA (bs h0 λK H h0=>HX (hb 174) (EN H) rfl (AR AA (Ad G ?_))))))))));refine Az h0 ?_ ?_<;>intro L h0
 ·have b6:K=false:=by simpa using L
  refine Al AA ?_;cases h0;exact rd [(6,i64 (-1))]
 ·have b8:K=true:=by simpa using L
  refine AH (F _ (Ai λK9 I=>Ae 4 AA (bs h0 λb e h0=>Gz Ee e AA (AR AA (Cn 2 PZ AA (Bp Mf AA (Ad I (Ai λM f=>Ae 2 AA (Cc AA (AR AA (Ad f (AD λO g=>Al AA ?_))))))))))));refine Az h0 ?_ ?_<;>intro P h0
  ·refine AD λQ h=>Ai λR k=>Ae 6 AA (bs h0 λl n h0=>HX (hb 179) (Om uq n) rfl (AR AA (Ad k ?_)));refine Az h0 ?_ ?_<;>intro o h0
   ·have S:l=false:=by simpa using o
    refine Al AA ?_;cases h0;exact rd [(6,i64 (-1))]
   ·have T:l=true:=by simpa using o
    refine AH (h _ (Al AA ?_));cases h0;exact rd [(6,i64 b.result)]
  ·refine AH (g _ (AD λU p=>AD λJ q=>bs h0 λt c h0=>?_));have u:∀{d},JJ t d ⟨65,AL [(3,Aq),(7,DW),(8,Cb b.params),(53,.bool d)],[Hd p0.decls p0.funcs,dI b.params b.result b.body.op b.body.num b.body.kids]⟩ J:=by
    rintro _ ⟨⟩ s V;refine q _ (AF V ?_);refine Az h0 ?_ ?_<;>intro W h0
    ·refine Al AA ?_;obtain rfl:=Sh.Bt h0;exact rd [(6,i64 (-1))]
    ·refine AH (p _ (AD λX x=>CZ (by kernel_rfl) (by kernel_rfl) (by rfl) ?_));iterate 6 refine yq tb rfl ?_
     refine bs h0 λY y h0=>Mt BE y AA ?_;iterate 3 refine yq tb rfl ?_
     refine bs h0 λz A h0=>Fa (QO A) (yq tb AA (Ao (x _ ?_)));obtain rfl:=Sh.Bt h0;exact rd [(6,i64 z)]
   refine Bu 14 (by kernel_rfl) (by kernel_rfl) (by rfl) ?_;iterate 3 refine yq tb rfl ?_
   rcases Sh.Aa c with ⟨a,c⟩|⟨a,c⟩
   ·refine ys a AA ?_;iterate 10 refine ys a rfl ?_
    exact Ao (zt a AA (AB (u c (BH [0,2] (.w (.w .nil)) (.same AA)))))
   ·refine yg tb a AA ?_;iterate 7 refine yg tb a rfl ?_
    exact bs c λZ B c=>fM (i:=0) (j:=Sh.w ((Sh.len b.params)-1)) (GF AA AA a) BE AA AA AA Cv B (bs c λC D c=>Ls (v:=(.bool C)) (GF AA AA a) (hb 179) (Om uq D) rfl AA AA (yg tb a AA (Ao (zf a AA (AB (u c (BH [0,2] (.w (.w .nil)) (.same AA))))))))
theorem U3 {N:Nat}{uY:AP->(List Int)->AG->Option (Int)}(uq :∀{p0:AP} {p1:(List Int)} {p2:AG} {r:Int},uY p0 p1 p2=some r->Bn 110 (YS p0.decls p0.funcs p1 p2.op p2.num p2.kids) [] (i64 r) []){p0:AP}{p1:(List Int)}{p2:AG}{r:Int}(h0:CR N uY p0 p1 p2=some r):Bn 110 (YS p0.decls p0.funcs p1 p2.op p2.num p2.kids) [] (i64 r) []:=by
 unfold CR at h0;refine Cx Tryz.func110 AA (Ai λK1 q2=>Et 0 AA (Et 1 AA (AR AA (Ad q2 (Al AA (AD λK3 q3=>?_))))));obtain⟨o4,a,h0⟩:=Sh.BZ h0;have p:JJ o4 (.inr ()) ⟨215,AL [],[]⟩ K3:=by
  rintro⟨⟩ s e;refine q3 _ (AF e (Al AA ?_));cases h0;exact rt [(6,i64 (-1))]
 refine Al AA (AJ (Al AA ?_));refine Az a ?_ ?_<;>intro b8 a
 ·refine AD λK9 q4=>bs a λc1 b a=>?_;have c2:∀{G},JJ c1 G ⟨215,AL [(26,.bool G)],[]⟩ K9:=by
   rintro _ ⟨⟩ s e;refine q4 _ (AF e ?_);refine Az a ?_ ?_<;>intro v9 a
   ·refine Al AA ?_;cases a;cases h0;exact rt [(6,i64 0)]
   ·exact AH (p a Au)
  refine AE AA (Ae 2 AA (Cc AA (Ae 2 AA ?_)));rcases Sh.Aa b with ⟨h,b⟩|⟨h,b⟩
  ·exact Am h AA (Am h AA (bs b λq5 c3 b=>Oz h (EN c3) rfl (zt h AA (AB (c2 b (Bi _ AA))))))
  ·exact zs h AA (zs h AA (zs h AA (zf h AA (AB (c2 b (Bi _ AA))))))
 ·refine Al AA ?_;refine Az a ?_ ?_<;>intro w0 a
  ·refine AD λq6 c4=>bs a λc5 b a=>?_;have c6:∀{H},JJ c5 H ⟨215,AL [(1,ls eI p1),(5,Aq),(40,.bool H)],[J9 p2.op p2.num p2.kids]⟩ q6:=by
    rintro _ ⟨⟩ s e;refine c4 _ (AF e ?_);refine Az a ?_ ?_<;>intro w1 a
    ·refine Ai λw2 c7=>Ae 3 AA (bs a λq7 c8 a=>Gz BE c8 AA (Ae 2 AA (Ad c7 ?_)));cases a;cases h0;exact rd [(6,i64 q7)]
    ·exact AH (p a (Bi _ AA))
   refine AE AA (Ae 2 AA (Cc AA (Ae 2 AA ?_)));rcases Sh.Aa b with ⟨f,b⟩|⟨f,b⟩
   ·exact Am f AA (Am f AA (Am f AA (DQ (Cb p1) f (By FY AA) (Am f AA (bs b λq8 c9 b=>Oz f (EN c9) rfl (zt f AA (AB (c6 b (BH [1] (.w .nil) (.same AA))))))))))
   ·refine zs f AA ?_;iterate 5 refine zs f rfl ?_
    exact zf f AA (AB (c6 b (BH [1] (.w .nil) (.same AA))))
  ·refine AD λq9 d1=>bs a λd2 b a=>?_;have y:∀{I},JJ d2 I ⟨215,AL (R4 p1 (gz p2.num p2.op [(46,.bool I)])),[Hd p0.decls p0.funcs,J9 p2.op p2.num p2.kids]⟩ q9:=by
    rintro _ ⟨⟩ s e;refine d1 _ (AF e ?_);refine Az a ?_ ?_<;>intro w3 a
    ·refine AD λt0 d3=>bs a λd4 b a=>?_;have d5:∀{J},JJ d4 J ⟨215,AL [(58,.bool J)],[]⟩ t0:=by
      rintro _ ⟨⟩ s e;refine d3 _ (AF e ?_);refine Az a ?_ ?_<;>intro w4 a
      ·refine Al AA ?_;cases a;cases h0;exact rt [(6,i64 0)]
      ·exact AH (p a Au)
     refine AE AA (Ae 2 AA ?_);rcases Sh.Aa b with ⟨n,b⟩|⟨n,b⟩
     ·refine Am n AA ?_;iterate 3 refine Am n rfl ?_
      exact bs b λt1 d6 b=>Oz n (QG uq d6) rfl (zt n AA (AB (d5 b (Bi _ AA))))
     ·refine zs n AA ?_;iterate 4 refine zs n rfl ?_
      exact zf n AA (AB (d5 b (Bi _ AA)))
    ·refine Al AA ?_;refine Az a ?_ ?_<;>intro w5 a
     ·refine AD λt2 d7=>bs a λd8 b a=>?_;have d9:∀{K},JJ d8 K ⟨215,AL [(68,.bool K)],[]⟩ t2:=by
       rintro _ ⟨⟩ s e;refine d7 _ (AF e ?_);refine Az a ?_ ?_<;>intro w6 a
       ·refine Al AA ?_;cases a;cases h0;exact rt [(6,i64 0)]
       ·exact AH (p a Au)
      refine AE AA (Ae 2 AA ?_);rcases Sh.Aa b with ⟨o,b⟩|⟨o,b⟩
      ·refine Am o AA ?_;iterate 3 refine Am o rfl ?_
       exact bs b λt3 g0 b=>Oz o (QG uq g0) rfl (zt o AA (AB (d9 b (Bi _ AA))))
      ·refine zs o AA ?_;iterate 4 refine zs o rfl ?_
       exact zf o AA (AB (d9 b (Bi _ AA)))
     ·refine Al AA ?_;refine Az a ?_ ?_<;>intro w7 a
      ·refine AD λt4 g1=>bs a λg2 b a=>?_;have g3:∀{M},JJ g2 M ⟨215,AL [(3,Aq),(5,DW),(88,.bool M)],[Hd p0.decls p0.funcs,J9 p2.op p2.num p2.kids]⟩ t4:=by
        rintro _ ⟨⟩ s e;refine g1 _ (AF e ?_);refine Az a ?_ ?_<;>intro w8 a
        ·refine Ai λw9 g4=>Ae 4 AA (bs a λt5 g5 a=>HX (hb 178) (Mw g5) rfl (AR AA (Ad g4 ?_)));cases a;cases h0;exact rd [(6,i64 t5)]
        ·exact AH (p a (Bi _ AA))
       refine Bu 17 (by kernel_rfl) (by kernel_rfl) (by rfl) ?_;iterate 4 refine yq tb rfl ?_
       refine bs b λt6 g6 b=>Fa (Mw g6) ?_;iterate 2 refine yq tb rfl ?_
       rcases Sh.Aa b with ⟨i,b⟩|⟨i,b⟩
       ·refine yg tb i AA ?_;iterate 7 refine yg tb i rfl ?_
        exact bs b λt7 g7 b=>Ls (v:=(ls eI t7)) (GF AA AA i) (hb 180) (E9 g7) rfl AA AA (bs b λg8 g9 b=>Ls (v:=(.bool g8)) (GF AA AA i) (hb 179) (Om uq g9) rfl AA AA (Ao (zt i AA (AB (g3 b Au)))))
       ·refine ys i AA ?_;iterate 9 refine ys i rfl ?_
        exact Ao (zf i AA (AB (g3 b Au)))
      ·refine Al AA ?_;refine Az a ?_ ?_<;>intro A0 a
       ·refine AD λt8 h3=>bs a λh4 b a=>?_;have h5:∀{O},JJ h4 O ⟨215,AL (R4 p1 [(102,.bool O)]),[Hd p0.decls p0.funcs,J9 p2.op p2.num p2.kids]⟩ t8:=by
         rintro _ ⟨⟩ s e;refine h3 _ (AF e ?_);refine Az a ?_ ?_<;>intro A1 a
         ·refine AD λA2 h6=>CZ (by kernel_rfl) (by kernel_rfl) (by rfl) ?_;iterate 4 refine yq tb rfl ?_
          refine bs a λP h7 a=>yz (Cz P.op P.num P.kids) (CI Bq AA AA h7 (Aj _) rfl) rfl (yq tb AA (bs a λh8 h9 a=>Fa (uq h9) (yq tb AA (Ao (h6 _ (Al AA ?_))))));refine Az a ?_ ?_<;>intro A3 a
          ·refine AD λA4 k0=>Bu 10 (by kernel_rfl) (by kernel_rfl) (by rfl) ?_;iterate 3 refine yq tb rfl ?_
           refine Gv (l:=[h8]) (enc:=eI) AT BE (by decide) rfl AA AA AA AA Bf (bs a λk1 k2 a=>?_);refine Fa (BS.wk (Eg k2) (by refine Wk.trans (Wk.Bg (L:=[(0,ls eI k1)]) (st':=S6) (id:=0) rfl tw Bf ⟨.Bg AA,pw⟩ AA) ?_;exact BH [] .nil (.same AA))) ?_;iterate 2 refine yq tb rfl ?_
           refine bs a λQ k3 a=>yz (Cz Q.op Q.num Q.kids) (CI Bq AA AA k3 (Aj _) rfl) rfl (yq tb AA (bs a λk4 k5 a=>Fa (uq k5) (Ao (AR AA (Ad k0 ?_)))));cases a;cases h0;exact rd [(6,i64 k4)]
          ·exact AH (p a (Bi _ AA))
         ·exact AH (p a (Bi _ AA))
        refine AE AA (Ae 2 AA ?_);rcases Sh.Aa b with ⟨j,b⟩|⟨j,b⟩
        ·exact Am j AA (Am j AA (DQ (Cb p2.kids) j (By Zv AA) (Am j AA (zt j AA (AB (h5 b Au))))))
        ·refine zs j AA ?_;iterate 3 refine zs j rfl ?_
         exact zf j AA (AB (h5 b Au))
       ·refine Al AA ?_;refine Az a ?_ ?_<;>intro A5 a
        ·refine AD λt9 k6=>bs a λk7 b a=>?_;have R:∀{S},JJ k7 S ⟨215,AL (R4 p1 [(140,.bool S)]),[Hd p0.decls p0.funcs,J9 p2.op p2.num p2.kids]⟩ t9:=by
          rintro _ ⟨⟩ s e;refine k6 _ (AF e ?_);refine Az a ?_ ?_<;>intro A6 a
          ·refine AD λA7 k8=>CZ (by kernel_rfl) (by kernel_rfl) (by rfl) ?_;iterate 4 refine yq tb rfl ?_
           refine bs a λT k9 a=>yz (Cz T.op T.num T.kids) (CI Bq AA AA k9 (Aj _) rfl) rfl (yq tb AA (bs a λl0 l1 a=>Fa (uq l1) (yq tb AA (Ao (k8 _ (AD λA8 l2=>CZ (by kernel_rfl) (by kernel_rfl) (by rfl) ?_))))));iterate 4 refine yq tb rfl ?_
           refine bs a λU l3 a=>yz (Cz U.op U.num U.kids) (CI Bq AA AA l3 (Aj _) rfl) rfl (yq tb AA (bs a λv0 l4 a=>Fa (uq l4) ?_));iterate 2 refine yq tb rfl ?_
           refine Ao (l2 _ ?_);refine Az a ?_ ?_<;>intro A9 a
           ·refine Al AA ?_;cases a;cases h0;exact rd [(6,i64 l0)]
           ·exact AH (p a (Bi _ AA))
          ·exact AH (p a (Bi _ AA))
         refine CZ (by kernel_rfl) (by kernel_rfl) (by rfl) ?_;iterate 2 refine yq tb rfl ?_
         rcases Sh.Aa b with ⟨k,b⟩|⟨k,b⟩
         ·refine yg tb k AA (yg tb k AA (I7 (v:=(Cb p2.kids)) (GF AA AA k) rfl (By Zv AA) (yg tb k AA (yt k AA (yq tb AA ?_)))));rcases Sh.Aa b with ⟨g,b⟩|⟨g,b⟩
          ·refine yg tb g AA ?_;iterate 3 refine yg tb g rfl ?_
           exact bs b λV l5 b=>I7 (v:=(Cz V.op V.num V.kids)) (GF AA AA g) rfl (CI Bq AA AA l5 (Aj _) rfl) (yg tb g AA (bs b λl6 l7 b=>Ls (v:=(i64 l6)) (GF AA AA g) (hb 110) (uq l7) rfl AA AA (yg tb g AA (yt g AA (Ao (R b Au))))))
          ·refine ys g AA ?_;iterate 7 refine ys g rfl ?_
           exact yf g AA (Ao (R b Au))
         ·refine ys k AA ?_;iterate 3 refine ys k rfl ?_
          refine yf k AA (yq tb AA ?_);iterate 8 refine ys rfl rfl ?_
          exact yf AA AA (Ao (R b Au))
        ·refine Al AA ?_;refine Az a ?_ ?_<;>intro B0 a
         ·refine Ai λB1 l8=>Ae 3 AA (bs a λv1 l9 a=>HX (hb 181) (Ta uq l9) rfl (AR AA (Ad l8 ?_)));cases a;cases h0;exact rd [(6,i64 v1)]
         ·refine AD λv2 m0=>bs a λm1 b a=>?_;have m2:∀{W},JJ m1 W ⟨215,AL (R4 p1 (gz p2.num p2.op [(164,.bool W)])),[Hd p0.decls p0.funcs,J9 p2.op p2.num p2.kids]⟩ v2:=by
           rintro _ ⟨⟩ s e;refine m0 _ (AF e ?_);refine Az a ?_ ?_<;>intro B2 a
           ·refine Ai λv3 X=>Ae 3 AA (bs a λm3 Y a=>HX (hb 182) (T0 uq Y) rfl (AR AA (Ad X ?_)));cases a;cases h0;exact rd [(6,i64 m3)]
           ·refine Al AA ?_;refine Az a ?_ ?_<;>intro v4 a
            ·refine AD λm4 Z=>bs a λz b a=>?_;have A:∀{t},JJ z t ⟨215,AL (R4 p1 [(179,.bool t)]),[Hd p0.decls p0.funcs,J9 p2.op p2.num p2.kids]⟩ m4:=by
              rintro _ ⟨⟩ s e;refine Z _ (AF e ?_);refine Az a ?_ ?_<;>intro v5 a
              ·refine AD λv6 b0=>CZ (by kernel_rfl) (by kernel_rfl) (by rfl) ?_;iterate 4 refine yq tb rfl ?_
               refine bs a λu b1 a=>yz (Cz u.op u.num u.kids) (CI Bq AA AA b1 (Aj _) rfl) rfl (yq tb AA (bs a λB b2 a=>Fa (uq b2) (yq tb AA (Ao (b0 _ (AD λm5 b3=>bs a λC b a=>?_))))));have D:∀{w},JJ C w ⟨215,AL [(3,Aq),(10,i64 B),(207,.bool w)],[Hd p0.decls p0.funcs]⟩ m5:=by
                rintro _ ⟨⟩ s e;refine b3 _ (AF e ?_);refine Az a ?_ ?_<;>intro v7 a
                ·refine Ai λv8 b4=>Ae 4 AA (bs a λm6 b5 a=>Gz DZ b5 AA (Ae 3 AA (Ad b4 ?_)));cases a;cases h0;exact rd [(6,i64 m6.to)]
                ·exact AH (p a (Bi _ AA))
               refine CZ (by kernel_rfl) (by kernel_rfl) (by rfl) ?_;iterate 3 refine yq tb rfl ?_
               refine bs b λm7 b6 b=>Fa (K0 b6) (yq tb AA ?_);rcases Sh.Aa b with ⟨c,b⟩|⟨c,b⟩
               ·refine yg tb c AA ?_;iterate 3 refine yg tb c rfl ?_
                refine bs b λx b7 b=>I7 (v:=(Cz x.op x.num x.kids)) (GF AA AA c) rfl (CI Bq AA AA b7 (Aj _) rfl) (yg tb c AA (bs b λE b9 b=>Ls (v:=(i64 E)) (GF AA AA c) (hb 110) (uq b9) rfl AA AA ?_));iterate 4 refine yg tb c rfl ?_
                refine bs b λF c0 b=>I7 (v:=(UU F)) (GF AA AA c) rfl (JT DZ AA c0) ?_;iterate 3 refine yg tb c rfl ?_
                exact yt c AA (Ao (D b (BH [0] (.w .nil) (.same AA))))
               ·refine ys c AA ?_;iterate 14 refine ys c rfl ?_
                exact yf c AA (Ao (D b (BH [0] (.w .nil) (.same AA))))
              ·exact AH (p a (Bi _ AA))
             refine AE AA (Ae 2 AA ?_);rcases Sh.Aa b with ⟨d,b⟩|⟨d,b⟩
             ·exact Am d AA (Am d AA (DQ (Cb p2.kids) d (By Zv AA) (Am d AA (zt d AA (AB (A b Au))))))
             ·refine zs d AA ?_;iterate 3 refine zs d rfl ?_
              exact zf d AA (AB (A b Au))
            ·exact AH (p a (Bi _ AA))
          refine Al AA ?_;refine Az b ?_ ?_<;>intro m8 b
          ·exact AH (m2 b (Dh (R4 p1 (gz p2.num p2.op [(164,.bool true)])) ⟨.rfl,.rfl,.rfl,.rfl,.rfl,.of (rC AV.bool m8),pw⟩))
          ·exact AE AA (Ae 2 AA (AB (m2 b Au)))
   refine Al AA ?_;refine Az b ?_ ?_<;>intro m9 b
   ·exact AH (y b (Dh (R4 p1 (gz p2.num p2.op [(46,.bool true)])) ⟨.rfl,.rfl,.rfl,.rfl,.rfl,.of (rC AV.bool m9),pw⟩))
   ·refine Al AA ?_;refine Az b ?_ ?_<;>intro q0 b
    ·exact AH (y b (Dh (R4 p1 (gz p2.num p2.op [(46,.bool true)])) ⟨.rfl,.rfl,.rfl,.rfl,.rfl,.of (rC AV.bool q0),pw⟩))
    ·refine Al AA ?_;refine Az b ?_ ?_<;>intro q1 b
     ·exact AH (y b (Dh (R4 p1 (gz p2.num p2.op [(46,.bool true)])) ⟨.rfl,.rfl,.rfl,.rfl,.rfl,.of (rC AV.bool q1),pw⟩))
     ·exact AE AA (Ae 2 AA (AB (y b Au)))
theorem UR {N:Nat}:∀(n:Nat),∀{p0:AP} {p1:(List Int)} {p2:AG} {r:Int},D1 N n p0 p1 p2=some r->Bn 110 (YS p0.decls p0.funcs p1 p2.op p2.num p2.kids) [] (i64 r) []:=by
 intro n
 induction n with
 | zero=>intro p0 p1 p2 r a;cases a
 | succ n ih=>
  intro p0 p1 p2 r a;rw[D1]at a;exact U3 (λh=>ih h) a
theorem Wf {N:Nat}:∀{p0:AP} {p1:(List Int)} {p2:AG} {r:Int},OJ N p0 p1 p2=some r->Bn 110 (YS p0.decls p0.funcs p1 p2.op p2.num p2.kids) [] (i64 r) []:=by
 intro p0 p1 p2 r a;exact UR N a
theorem RZ {N:Nat}{p0:AP}{r:Bool}(h0:Ec N p0=some r):Bn 57 [Jn p0.decls p0.funcs] [] (.bool r) []:=by
 unfold Ec at h0;refine Cx Tryz.func57 AA (Ai λR x=>Et 0 AA (AR AA (Ad x (AD λS y=>Ai λT z=>AR AA (bs h0 λG A h0=>HX (hb 108) (Tq A) rfl (AR AA (Ad z ?_)))))));refine Az h0 ?_ ?_<;>intro H h0
 ·have U:G=false:=by simpa using H
  refine Al AA ?_;cases h0;exact rd [(2,.bool false)]
 ·have V:G=true:=by simpa using H
  refine AH (y _ (AD λJ B=>Al AA ?_));obtain⟨g,b,h0⟩:=Sh.BZ h0;have C:JJ g (.inr ()) ⟨45,AL [],[]⟩ J:=by
   rintro⟨⟩ s D;refine B _ (AF D (Al AA ?_));cases h0;exact rt [(2,.bool true)]
  refine AJ (Le (DE N p0) (λe=>⟨45,AL [(1,.ptr 0 0 0 0),(3,i64 e)],[Hd p0.decls p0.funcs]⟩) N 0 b Au ?_);intro n e b;rw[DE]at b;refine AD λL i=>Ai λM j=>Ae 3 AA (Cc AA (AR AA (Ad j ?_)));refine Az b ?_ ?_<;>intro O b
  ·refine AH (i _ (AD λP k=>AJ (AD λE l=>bs b λo d b=>?_)));have p:∀{h},JJ o h ⟨45,AL [(1,Aq),(3,i64 e),(44,.bool h)],[Hd p0.decls p0.funcs]⟩ E:=by
    rintro _ ⟨⟩ s D;refine l _ (AF D ?_);refine Az b ?_ ?_<;>intro Q b
    ·refine Al AA ?_;cases b;cases h0;exact rd [(2,.bool false)]
    ·exact AH (k _ (AE AA (Ae 3 AA (AB (xi (Sh.w (e+1)) b Au)))))
   refine CZ (by kernel_rfl) (by kernel_rfl) (by rfl) ?_;iterate 3 refine yq tb rfl ?_
   refine bs d λf c d=>Mt Ee c AA ?_;iterate 2 refine yq tb rfl ?_
   refine bs d λF q d=>Fa (Ms q) ?_;iterate 2 refine yq tb rfl ?_
   rcases Sh.Aa d with ⟨a,d⟩|⟨a,d⟩
   ·refine ys a AA ?_;iterate 20 refine ys a rfl ?_
    exact yt a AA (Ao (p d Au))
   ·refine yg tb a AA ?_;iterate 3 refine yg tb a rfl ?_
    refine I7 (v:=(Z7 f)) (GF AA AA a) rfl (JT Ee AA c) ?_;iterate 5 refine yg tb a rfl ?_
    refine I7 (v:=(Z7 f)) (GF AA AA a) rfl (JT Ee AA c) ?_;iterate 2 refine yg tb a rfl ?_
    refine bs d λt u d=>Ls (v:=(i64 t)) (GF AA AA a) (hb 110) (Wf u) rfl AA AA ?_;iterate 3 refine yg tb a rfl ?_
    refine I7 (v:=(Z7 f)) (GF AA AA a) rfl (JT Ee AA c) ?_;iterate 3 refine yg tb a rfl ?_
    exact yf a AA (Ao (p d Au))
  ·exact As (C b (Bi _ AA))
theorem Tb {N:Nat}{p0:(List AI)}{r:(List AI)}(h0:Jt N p0=some r):Bn 71 [Cd p0] [] (ow 0 0 r) [Jo r]:=by
 unfold Jt at h0;refine Cx Tryz.func71 AA (Al AA (Ai λK2 K=>CF 0 ([]:List AI) Ak DZ AA (AR AA (Ad K (AD λT M=>Al AA (bs h0 λO c h0=>?_))))));have U:∀{t},JJ O t ⟨55,AL [(3,ow 0 0 t)],[Jo t]⟩ T:=by
  rintro _ ⟨⟩ s P;try dsimp only at h0
  refine M _ (AF P (Al AA ?_));obtain rfl:=Sh.Bt h0;exact rt [(2,ow 0 0 O)]
 refine AJ (KB (GK N p0) (λi d=>⟨55,AL [(0,ls Ak p0),(3,ow 0 0 d),(4,i64 i)],[ro 0 104 3 Ak d]⟩) N 0 [] c Au ?_);intro n i d c;rw[GK]at c;refine AD λW y=>Ai λX z=>Ae 2 AA (Cc AA (AR AA (Ad z ?_)));refine Az c ?_ ?_<;>intro Y c
 ·refine AH (y _ (AD λZ A=>AJ (Ai λb0 B=>CF 1 ([]:List EK) CP Hg AA (AR AA (Ad B (AD λQ C=>Al AA (bs c λo a c=>?_)))))));have R:∀{b},JJ o b ⟨55,AL [(0,Cd p0),(3,ow 0 0 d),(4,i64 i),(5,ow 1 0 b)],[Jo d,ro 0 106 1 CP b]⟩ Q:=by
   rintro _ ⟨⟩ s P;refine C _ (AF P (AF (Wk.Bg (L:=[(0,Cd p0),(3,ow 0 0 d),(4,i64 i),(5,ls CP o)]) (st':=[Jo d,OA]) (id:=1) rfl uL Bf ⟨.rfl,.rfl,.rfl,.Bg AA,pw⟩ AA) (Bu 14 (by kernel_rfl) (by kernel_rfl) (by rfl) ?_)));iterate 3 refine yq tb rfl ?_
   refine bs c λe j c=>Mt DZ j AA ?_;iterate 4 refine yq tb rfl ?_
   refine Mt DZ j AA ?_;iterate 3 refine yq tb rfl ?_
   refine yz (.agg [i64 e.from_,i64 e.to,ls CP o]) (DA LQ LS Ev AA AA) rfl (Gv (l:=[AI.mk e.from_ e.to o]) (enc:=Ak) AT DZ (by decide) rfl AA AA AA AA Bf (Ao (bs c λp D c=>Lb [AI.mk e.from_ e.to o] DZ AA N8 D (AR AA (Ad A (AE AA (Ae 3 AA ?_)))))));exact AB (xi (Sh.w (i+1),p) c (by refine Wk.trans (Eh (L:=[(0,Cd p0),(3,ow 0 0 p),(4,Kp i)]) (st':=[Jo p,jl]) (.pure Bf (.pure nN .nil)) (.same AA)) ?_;exact BH [0] (.p .nil) (.same AA)))
  refine AJ (KB (FE i p0) (λh f=>⟨55,AL [(0,ls Ak p0),(3,ow 0 0 d),(4,i64 i),(5,ow 1 0 f),(6,i64 h)],[ro 0 104 3 Ak d,ro 0 106 1 CP f]⟩) N 0 [] a Au ?_);intro n h f a;rw[FE]at a;refine AD λb1 E=>Ai λb2 F=>Ae 3 AA (bs a λb3 k a=>Gz DZ k AA (Ae 2 AA (Cc AA (AR AA (Ad F ?_)))));refine Az a ?_ ?_<;>intro b4 a
  ·refine AH (E _ (AD λb5 G=>AJ (AE AA (Ae 3 AA (Gz DZ k AA (Ae 3 AA (bs a λb6 H a=>Gz Hg H AA (Ae 2 AA (bs a λg I a=>La (ow 2 0 g) (MU I) ⟨(Bj λ_=>AA),pw⟩ (zz (.agg [ow 2 0 g]) (DA eR dt Pf AA AA) rfl (D8 [(0,Cd p0),(3,ow 0 0 d),(4,i64 i),(6,i64 h),(25,ow 1 0 f),(36,.agg [ls eI g])] [Jo d,ro 0 106 1 CP f,⟨1,3,1,[]⟩] 2 AA ⟨.rfl,.rfl,.rfl,.rfl,.rfl,.agg ⟨.Gs AA,pw⟩,pw⟩ Cv AA (CF 3 [EK.mk g] CP Hg AA (bs a λq J a=>Lb [EK.mk g] Hg AA (E8 AA AA) J (AR AA (Ad G (AE AA (Ae 3 AA ?_)))))))))))))))));exact AB (xi (Sh.w (h+1),q) a (by refine Wk.trans (Eh (L:=[(0,Cd p0),(3,ow 0 0 d),(4,i64 i),(5,ow 1 0 q),(6,Kp h)]) (st':=[Jo d,ro 0 106 1 CP q,⟨0,3,1,[]⟩,ro 0 106 1 CP [EK.mk g]]) (.pure Bf (.pure Bf (.pure nN (.pure Bf .nil)))) (.same AA)) ?_;exact BH [0,1] (.p (.p .nil)) (.same AA)))
  ·exact As (R a Au)
 ·exact As (U c Au)
theorem KW {N:Nat}{p0 p1:Int}{r:(List Int)}(h0:HT N p0 p1=some r):Bn 112 [i64 p0,i64 p1] [] (ow 0 0 r) [BP r]:=by
 unfold HT at h0;refine Cx Tryz.func112 AA (Al AA (Ai λz i=>CF 0 ([]:List Int) eI BE AA (AR AA (Ad i (AD λp j=>Al AA (bs h0 λk a h0=>?_))))));have q:∀{d},JJ k d ⟨20,AL [(5,ow 0 0 d)],[BP d]⟩ p:=by
  rintro _ ⟨⟩ s t;try dsimp only at h0
  refine j _ (AF t (Al AA ?_));obtain rfl:=Sh.Bt h0;exact rt [(4,ow 0 0 k)]
 refine AJ (KB (FF p0 p1) (λb h=>⟨20,AL [(0,i64 p0),(1,i64 p1),(5,ow 0 0 h),(6,i64 b)],[ro 0 3 1 eI h]⟩) N 0 [] a Au ?_);intro n b h a;rw[FF]at a;refine AD λu e=>Al AA ?_;refine Az a ?_ ?_<;>intro x a
 ·refine AH (e _ (AD λy f=>AJ (AE AA (Ae 4 AA (CF 1 [Sh.w (p0+b)] eI BE AA (bs a λc g a=>Lb [Sh.w (p0+b)] BE AA (E8 AA AA) g (AR AA (Ad f (AE AA (Ae 3 AA ?_))))))))));exact AB (xi (Sh.w (b+1),c) a (by refine Wk.trans (Eh (L:=[(0,i64 p0),(1,i64 p1),(5,ow 0 0 c),(6,Kp b)]) (st':=[BP c,ro 0 3 1 eI [Sh.w (p0+b)]]) (.pure Bf (.pure Bf .nil)) (.same AA)) ?_;exact BH [0] (.p .nil) (.same AA)))
 ·exact As (q a Au)
theorem Mg {uV:Int}{s1:(List Step)}{p1:Step}{r:Int×(List Step)×Int}(h0:G9 uV s1 p1=some r):Bn 236 [Aq,.agg (Tj p1)] (YF s1 uV) (i64 r.1) (Nu r.2.1 r.2.2):=by
 unfold G9 at h0;refine Cx Tryz.func236 AA (AF (Wk.move (id:=1) (p:=0) (j:=0) (st':=(Nu s1 uV)) rfl AA (by decide) rfl AA) (Ai λF q=>Et 3 AA (AR AA (Ad q (AD λD t=>bs h0 λC b h0=>?_)))));have f:∀u,C=u->∀s,Wk 2 s ⟨28,AL [(0,Aq)],Nu u uV⟩->D s:=by
  intro u G s E;subst C;refine t _ (AF E (Ai λH y=>Ae 8 AA (Bp HP AA (Ad y (Al AA ?_)))));cases h0;exact rt [(4,i64 (Sh.w ((Sh.w (uV+1))-1)))]
 refine Iw (by kernel_rfl) (hX 0 Aq AA (D7 AA) (hX 1 Aq AA (D7 AA) (hX 2 Aq AA (G6 AA AA) ?_)));refine xa [3,5] ⟨?_,?_,pw⟩
 ·refine xo 3 (AR AA (AB ⟨AA,?_⟩));refine xa [4,5] ⟨?_,?_,pw⟩
  ·refine xo 4 (AR AA (AB ⟨AA,xa [5] ⟨?_,pw⟩⟩))
   ·refine xo 5 (AR AA (AB ⟨AA,xa [6] ⟨?_,pw⟩⟩))
    ·refine xo 6 ?_;refine MN (m:=4) (l:=[p1]) (enc:=C8) AT MC (by decide) rfl AA (by simp only[List.map,Gn];rfl) rfl AA AA ?_;refine AB ⟨AA,xa [7] ⟨?_,pw⟩⟩
     ·refine xo 7 (bs b λk z b=>Fx (l2:=[p1]) AT MC AA AA AA AA (E8 AA AA Kl) Lw z AA (AB ⟨AA,hX 8 Aq AA (G6 AA AA) (xa [9] ⟨?_,pw⟩)⟩))
      ·refine xo 9 (AR AA (AB ⟨AA,xa [10] ⟨?_,pw⟩⟩))
       ·refine xo 10 (Bp YV AA (AB ⟨AA,?_⟩));exact GP AA (by kernel_rfl) (f k (BU b) _ (by refine Wk.trans (CS (L:=[(0,Aq)]) (st':=(iV k uV p1)) (.raw AA AA AA (.pure AA nN (.pure AA (AM Ab) (.raw AA AA AA (.pure AA (AM Ab) .nil))))) (.same AA)) ?_;exact G2 (L:=[(0,Aq)]) (st':=(Nu k uV)) (st1:=(Nu k uV)) [0,1,2] (.w (.pure nN (.pure (AM Ab) .nil))) (.same AA)))
  ·refine xo 5 (AR AA (AB ⟨AA,?_⟩));refine xa [4,6] ⟨?_,?_,pw⟩
   ·refine xo 4 (AR AA (AB ⟨AA,xa [6] ⟨?_,pw⟩⟩))
    ·refine xo 6 ?_;refine MN (m:=4) (l:=[p1]) (enc:=C8) AT MC (by decide) rfl AA (by simp only[List.map,Gn];rfl) rfl AA AA ?_;refine AB ⟨AA,xa [7] ⟨?_,pw⟩⟩
     ·refine xo 7 (bs b λn A b=>Fx (l2:=[p1]) AT MC AA AA AA AA (E8 AA AA Kl) Lw A AA (AB ⟨AA,hX 8 Aq AA (G6 AA AA) (xa [9] ⟨?_,pw⟩)⟩))
      ·refine xo 9 (AR AA (AB ⟨AA,xa [10] ⟨?_,pw⟩⟩))
       ·refine xo 10 (Bp YV AA (AB ⟨AA,?_⟩));exact GP AA (by kernel_rfl) (f n (BU b) _ (by refine Wk.trans (CS (L:=[(0,Aq)]) (st':=(iV n uV p1)) (.raw AA AA AA (.pure AA nN (.pure AA (AM Ab) (.raw AA AA AA (.pure AA (AM Ab) .nil))))) (.same AA)) ?_;exact G2 (L:=[(0,Aq)]) (st':=(Nu n uV)) (st1:=(Nu n uV)) [0,1,2] (.w (.pure nN (.pure (AM Ab) .nil))) (.same AA)))
   ·refine xo 6 ?_;refine MN (m:=4) (l:=[p1]) (enc:=C8) AT MC (by decide) rfl AA (by simp only[List.map,Gn];rfl) rfl AA AA ?_;refine AB ⟨AA,xa [4] ⟨?_,pw⟩⟩
    ·refine xo 4 (AR AA (AB ⟨AA,xa [7] ⟨?_,pw⟩⟩))
     ·refine xo 7 (bs b λo B b=>Fx (l2:=[p1]) AT MC AA AA AA AA (E8 AA AA Kl) Lw B AA (AB ⟨AA,hX 8 Aq AA (G6 AA AA) (xa [9] ⟨?_,pw⟩)⟩))
      ·refine xo 9 (AR AA (AB ⟨AA,xa [10] ⟨?_,pw⟩⟩))
       ·refine xo 10 (Bp YV AA (AB ⟨AA,?_⟩));exact GP AA (by kernel_rfl) (f o (BU b) _ (by refine Wk.trans (CS (L:=[(0,Aq)]) (st':=(iV o uV p1)) (.raw AA AA AA (.pure AA nN (.pure AA (AM Ab) (.raw AA AA AA (.pure AA (AM Ab) .nil))))) (.same AA)) ?_;exact G2 (L:=[(0,Aq)]) (st':=(Nu o uV)) (st1:=(Nu o uV)) [0,1,2] (.w (.pure nN (.pure (AM Ab) .nil))) (.same AA)))
 ·refine xo 5 (AR AA (AB ⟨AA,?_⟩));refine xa [3,6] ⟨?_,?_,pw⟩
  ·refine xo 3 (AR AA (AB ⟨AA,?_⟩));refine xa [4,6] ⟨?_,?_,pw⟩
   ·refine xo 4 (AR AA (AB ⟨AA,xa [6] ⟨?_,pw⟩⟩))
    ·refine xo 6 ?_;refine MN (m:=4) (l:=[p1]) (enc:=C8) AT MC (by decide) rfl AA (by simp only[List.map,Gn];rfl) rfl AA AA ?_;refine AB ⟨AA,xa [7] ⟨?_,pw⟩⟩
     ·refine xo 7 (bs b λc g b=>Fx (l2:=[p1]) AT MC AA AA AA AA (E8 AA AA Kl) Lw g AA (AB ⟨AA,hX 8 Aq AA (G6 AA AA) (xa [9] ⟨?_,pw⟩)⟩))
      ·refine xo 9 (AR AA (AB ⟨AA,xa [10] ⟨?_,pw⟩⟩))
       ·refine xo 10 (Bp YV AA (AB ⟨AA,?_⟩));exact GP AA (by kernel_rfl) (f c (BU b) _ (by refine Wk.trans (CS (L:=[(0,Aq)]) (st':=(iV c uV p1)) (.raw AA AA AA (.pure AA nN (.pure AA (AM Ab) (.raw AA AA AA (.pure AA (AM Ab) .nil))))) (.same AA)) ?_;exact G2 (L:=[(0,Aq)]) (st':=(Nu c uV)) (st1:=(Nu c uV)) [0,1,2] (.w (.pure nN (.pure (AM Ab) .nil))) (.same AA)))
   ·refine xo 6 ?_;refine MN (m:=4) (l:=[p1]) (enc:=C8) AT MC (by decide) rfl AA (by simp only[List.map,Gn];rfl) rfl AA AA ?_;refine AB ⟨AA,xa [4] ⟨?_,pw⟩⟩
    ·refine xo 4 (AR AA (AB ⟨AA,xa [7] ⟨?_,pw⟩⟩))
     ·refine xo 7 (bs b λd h b=>Fx (l2:=[p1]) AT MC AA AA AA AA (E8 AA AA Kl) Lw h AA (AB ⟨AA,hX 8 Aq AA (G6 AA AA) (xa [9] ⟨?_,pw⟩)⟩))
      ·refine xo 9 (AR AA (AB ⟨AA,xa [10] ⟨?_,pw⟩⟩))
       ·refine xo 10 (Bp YV AA (AB ⟨AA,?_⟩));exact GP AA (by kernel_rfl) (f d (BU b) _ (by refine Wk.trans (CS (L:=[(0,Aq)]) (st':=(iV d uV p1)) (.raw AA AA AA (.pure AA nN (.pure AA (AM Ab) (.raw AA AA AA (.pure AA (AM Ab) .nil))))) (.same AA)) ?_;exact G2 (L:=[(0,Aq)]) (st':=(Nu d uV)) (st1:=(Nu d uV)) [0,1,2] (.w (.pure nN (.pure (AM Ab) .nil))) (.same AA)))
  ·refine xo 6 ?_;refine MN (m:=4) (l:=[p1]) (enc:=C8) AT MC (by decide) rfl AA (by simp only[List.map,Gn];rfl) rfl AA AA ?_;refine AB ⟨AA,xa [3] ⟨?_,pw⟩⟩
   ·refine xo 3 (AR AA (AB ⟨AA,xa [4] ⟨?_,pw⟩⟩))
    ·refine xo 4 (AR AA (AB ⟨AA,xa [7] ⟨?_,pw⟩⟩))
     ·refine xo 7 (bs b λe i b=>Fx (l2:=[p1]) AT MC AA AA AA AA (E8 AA AA Kl) Lw i AA (AB ⟨AA,hX 8 Aq AA (G6 AA AA) (xa [9] ⟨?_,pw⟩)⟩))
      ·refine xo 9 (AR AA (AB ⟨AA,xa [10] ⟨?_,pw⟩⟩))
       ·refine xo 10 (Bp YV AA (AB ⟨AA,?_⟩));exact GP AA (by kernel_rfl) (f e (BU b) _ (by refine Wk.trans (CS (L:=[(0,Aq)]) (st':=(iV e uV p1)) (.raw AA AA AA (.pure AA nN (.pure AA (AM Ab) (.raw AA AA AA (.pure AA (AM Ab) .nil))))) (.same AA)) ?_;exact G2 (L:=[(0,Aq)]) (st':=(Nu e uV)) (st1:=(Nu e uV)) [0,1,2] (.w (.pure nN (.pure (AM Ab) .nil))) (.same AA)))
theorem O7 {N:Nat}{uf:AP->AG->(List Int)->Int->Option (Block)}(vO :∀{p0:AP} {p1:AG} {p2:(List Int)} {p3:Int} {r:Block},uf p0 p1 p2 p3=some r->Bn 111 [Jn p0.decls p0.funcs,BJ p1.op p1.num p1.kids,ls eI p2,i64 p3] [] (I0 r) []){vA:Int->(List Step)->AP->AG->(List Int)->Option (Int×(List Step)×Int)}(vW :∀{uV:Int} {s1:(List Step)} {p1:AP} {p2:AG} {p3:(List Int)} {r:Int×(List Step)×Int},vA uV s1 p1 p2 p3=some r->Bn 184 [Aq,Jn p1.decls p1.funcs,BJ p2.op p2.num p2.kids,ls eI p3] (YF s1 uV) (i64 r.1) (Nu r.2.1 r.2.2)){uV:Int}{s1:(List Step)}{p1:AP}{p2:AG}{p3:(List Int)}{r:Int×(List Step)×Int}(h0:Hn N uf vA uV s1 p1 p2 p3=some r):Bn 184 [Aq,Jn p1.decls p1.funcs,BJ p2.op p2.num p2.kids,ls eI p3] (YF s1 uV) (i64 r.1) (Nu r.2.1 r.2.2):=by
 unfold Hn at h0;refine Cx Tryz.func184 AA (AF (Wk.move (id:=1) (p:=0) (j:=0) (st':=(Nu s1 uV)) rfl AA (by decide) rfl AA) (Ai λK1 h5=>Et 3 AA (Et 4 AA (AR AA (Ad h5 (AD λK2 h6=>Al AA (AJ (Al AA ?_))))))));refine Az h0 ?_ ?_<;>intro b5 h0
 ·refine Ai λK6 h7=>Ae 3 AA (bs h0 λc7 h8 h0=>Gz BE h8 AA (Ae 2 AA (Ad h7 ?_)));cases h0;exact Ap (xr (G2 (L:=[(8,i64 c7)]) (st':=(Nu s1 uV)) (st1:=(Nu s1 uV)) [0,1,2] (.w (.pure nN (.pure (AM Ab) .nil))) (.same AA)))
 ·refine Al AA ?_;refine Az h0 ?_ ?_<;>intro b9 h0
  ·refine AD λk8 U=>Bu 7 (by kernel_rfl) (by kernel_rfl) (by rfl) ?_;iterate 4 refine yq tb rfl ?_
   refine bs h0 λH V h0=>yz (Cz H.op H.num H.kids) (CI Bq AA AA V (Aj _) rfl) rfl ?_;iterate 2 refine yq tb rfl ?_
   refine Ao (bs h0 λe W h0=>?_);refine DX (rowsP:=[Px s1 uV,Ck s1]) (rows0:=(YF s1 uV)) (rows1:=[Px e.2.1 e.2.2,Ct]) (rows2:=[Ck e.2.1]) (rows1':=[dT e.2.1 e.2.2,Ct]) (rows2':=[Ck e.2.1]) (st':=[dT e.2.1 e.2.2,Ct,Ct,Hd p1.decls p1.funcs,J9 p2.op p2.num p2.kids,Ck e.2.1]) (v':=(i64 e.1)) [0,2] AT (hb 184) (vW W) rfl (by decide) rfl AA (.raw AA AA (.pure (AM Ab) .nil)) rfl AA (.raw AA AA (.pure nN .nil)) (.pure (AM Ab) .nil) rfl AA ?_;refine AR AA (Ad U (AD λk9 X=>Bu 10 (by kernel_rfl) (by kernel_rfl) (by rfl) ?_));iterate 4 refine yq tb rfl ?_
   refine bs h0 λI Y h0=>yz (Cz I.op I.num I.kids) (CI Bq AA AA Y (Aj _) rfl) rfl ?_;iterate 3 refine yq tb rfl ?_
   refine Gv (l:=[e.1]) (enc:=eI) AT BE (by decide) rfl AA AA AA AA Bf (bs h0 λZ b0 h0=>?_);refine Fa (BS.wk (Eg b0) (by refine Wk.trans (Wk.Bg (L:=[(0,ls eI Z)]) (st':=S6) (id:=0) rfl tw Bf ⟨.Bg AA,pw⟩ AA) ?_;exact BH [] .nil (.same AA))) ?_;refine Ao (bs h0 λf b1 h0=>?_);refine DX (rowsP:=[dT e.2.1 e.2.2,Ck e.2.1]) (rows0:=(YF e.2.1 e.2.2)) (rows1:=[Px f.2.1 f.2.2,Ct]) (rows2:=[Ck f.2.1]) (rows1':=[Va f.2.1 f.2.2,Ct]) (rows2':=[Ck f.2.1]) (st':=[Va f.2.1 f.2.2,Ct,Ct,Hd p1.decls p1.funcs,J9 p2.op p2.num p2.kids,Ct,Ck f.2.1]) (v':=(i64 f.1)) [0,5] AT (hb 184) (vW b1) rfl (by decide) rfl AA (.raw AA AA (.pure (AM Ab) .nil)) rfl AA (.raw AA AA (.pure nN .nil)) (.pure (AM Ab) .nil) rfl AA ?_;refine AR AA (Ad X ?_);cases h0;exact Ap (xr (G2 (L:=[(8,i64 f.1)]) (st':=(Nu f.2.1 f.2.2)) (st1:=[Va f.2.1 f.2.2,Ct,Ck f.2.1]) [0,1,6] (.w (.pure nN (.pure (AM Ab) .nil))) (.same AA)))
  ·refine AD λh9 b2=>bs h0 λb3 c h0=>?_;have b4:∀J,b3=J->∀s,Wk 2 s ⟨148,AL (lx p3 [(48,.bool J)]),[Px s1 uV,Ct,Ck s1,Hd p1.decls p1.funcs,J9 p2.op p2.num p2.kids]⟩->h9 s:=by
    intro J hq s K;subst b3;refine b2 _ (AF K ?_);refine Az h0 ?_ ?_<;>intro l0 h0
    ·refine AD λl1 b6=>Bu 7 (by kernel_rfl) (by kernel_rfl) (by rfl) ?_;iterate 4 refine yq tb rfl ?_
     refine bs h0 λM b7 h0=>yz (Cz M.op M.num M.kids) (CI Bq AA AA b7 (Aj _) rfl) rfl ?_;iterate 2 refine yq tb rfl ?_
     refine Ao (bs h0 λa b8 h0=>?_);refine DX (rowsP:=[Px s1 uV,Ck s1]) (rows0:=(YF s1 uV)) (rows1:=[Px a.2.1 a.2.2,Ct]) (rows2:=[Ck a.2.1]) (rows1':=[dT a.2.1 a.2.2,Ct]) (rows2':=[Ck a.2.1]) (st':=[dT a.2.1 a.2.2,Ct,Ct,Hd p1.decls p1.funcs,J9 p2.op p2.num p2.kids,Ck a.2.1]) (v':=(i64 a.1)) [0,2] AT (hb 184) (vW b8) rfl (by decide) rfl AA (.raw AA AA (.pure (AM Ab) .nil)) rfl AA (.raw AA AA (.pure nN .nil)) (.pure (AM Ab) .nil) rfl AA ?_;refine AR AA (Ad b6 (Ai λl3 c0=>CF 6 ([]:List Block) EZ Rv AA (AR AA (Ad c0 (Ai λl4 c1=>Ae 4 AA (bs h0 λi c2 h0=>La (ow 7 0 i) (Jm c2) ⟨(Bj λ_=>AA),pw⟩ (AR AA (Ad c1 (AD λk0 c3=>Al AA (bs h0 λO c h0=>?_))))))))));have k1:∀u,O=u->∀s,Wk 2 s ⟨148,AL [(0,Aq),(6,Ca),(10,i64 a.1),(11,ow 4 0 u)],[kB a.2.1 a.2.2,Ct,J9 p2.op p2.num p2.kids,Ck a.2.1,Qg u]⟩->k0 s:=by
      intro u hq s K;subst O;refine c3 _ (AF K (Ai λl5 c4=>Ae 6 AA (CF 5 [a.1] eI BE AA (AR AA (zz (.agg [i64 p2.op,i64 p2.num,i64 0,ow 5 0 [a.1],ow 4 0 u]) (DA bu dQ P8 AA AA) rfl (D8 [(108,Aq),(116,.agg [i64 p2.op,i64 p2.num,i64 0,ls eI [a.1],ow 4 0 u])] [kB a.2.1 a.2.2,Ct,J9 p2.op p2.num p2.kids,Ck a.2.1,Qg u,⟨1,3,1,[]⟩] 5 AA ⟨.rfl,.agg ⟨.rfl,.rfl,.rfl,.Gs AA,.rfl,pw⟩,pw⟩ Cv AA (D8 [(108,Aq),(116,.agg [i64 p2.op,i64 p2.num,i64 0,ls eI [a.1],ls EZ u])] [kB a.2.1 a.2.2,Ct,J9 p2.op p2.num p2.kids,Ck a.2.1,eN,⟨1,3,1,[]⟩] 4 AA ⟨.rfl,.agg ⟨.rfl,.rfl,.rfl,.rfl,.Gs AA,pw⟩,pw⟩ Cv AA (bs h0 λg c5 h0=>?_))))))));refine DX (rowsP:=[kB a.2.1 a.2.2,Ck a.2.1]) (rows0:=(YF a.2.1 a.2.2)) (rows1:=[Px g.2.1 g.2.2,Ct]) (rows2:=[Ck g.2.1]) (rows1':=[Va g.2.1 g.2.2,Ct]) (rows2':=[Ck g.2.1]) (st':=[Va g.2.1 g.2.2,Ct,J9 p2.op p2.num p2.kids,Ct,eN,⟨1,3,1,[]⟩,Ck g.2.1]) (v':=(i64 g.1)) [0,3] AT (hb 236) (Mg c5) rfl (by decide) rfl AA (.raw AA AA (.pure (AM Ab) .nil)) rfl AA (.raw AA AA (.pure nN .nil)) (.pure (AM Ab) .nil) rfl AA ?_;refine AR AA (Ad c4 ?_);cases h0;exact Ap (xr (G2 (L:=[(8,i64 g.1)]) (st':=(Nu g.2.1 g.2.2)) (st1:=[Va g.2.1 g.2.2,Ct,Ck g.2.1]) [0,1,6] (.w (.pure nN (.pure (AM Ab) .nil))) (.same AA)))
     refine AJ (KB (Dn N p1 p2 p3 a i uf) (λC q=>⟨148,AL [(0,.ptr 0 0 0 0),(3,ls eI p3),(5,.ptr 2 0 0 0),(6,.ptr 3 0 0 0),(10,i64 a.1),(11,ow 5 0 q),(12,ow 6 0 i),(13,i64 C)],[⟨0,206,2,[[ow 4 0 a.2.1,i64 a.2.2]]⟩,⟨1,80,5,[]⟩,Hd p1.decls p1.funcs,J9 p2.op p2.num p2.kids,ro 0 80 5 C8 a.2.1,ro 0 48 2 EZ q,ro 0 3 1 eI i]⟩) N 1 [] c (by refine Wk.trans (G2 (L:=[(0,.ptr 0 0 0 0),(3,ls eI p3),(5,.ptr 2 0 0 0),(6,.ptr 3 0 0 0),(10,i64 a.1),(11,.own 5 0 (List.length ([]:List Block))),(12,ow 6 0 i),(13,i64 1)]) (st':=[⟨0,206,2,[[ow 4 0 a.2.1,i64 a.2.2]]⟩,⟨1,80,5,[]⟩,Hd p1.decls p1.funcs,J9 p2.op p2.num p2.kids,ro 0 80 5 C8 a.2.1,ro 0 48 2 EZ ([]:List Block),ro 0 3 1 eI i]) (st1:=[⟨0,206,2,[[ow 5 0 a.2.1,i64 a.2.2]]⟩,⟨1,80,5,[]⟩,Hd p1.decls p1.funcs,J9 p2.op p2.num p2.kids,ro 0 80 5 C8 a.2.1,ro 0 48 2 EZ ([]:List Block),ro 0 3 1 eI i]) [0,1,3,4,5,6,7] (.w (.pure nN (.w (.w (.pure (AM Ab) (.p (.p .nil))))))) (.same AA)) ?_;exact Ip AA) ?_);intro n C q c;rw[Dn]at c;refine AD λl6 c6=>Ai λl7 c8=>Ae 3 AA (Cc AA (AR AA (Ad c8 ?_)));refine Az c ?_ ?_<;>intro l8 c
     ·refine AH (c6 _ (AD λl9 c9=>AJ (Al AA (AD λk2 d0=>bs c λd1 F c=>?_))));have d2:∀t,d1=t->∀s,Wk 2 s ⟨148,AL [(0,Aq),(3,ls eI p3),(5,Ca),(6,G1),(10,i64 a.1),(11,ow 5 0 q),(12,ow 6 0 i),(13,i64 C),(14,i64 t)],[⟨0,206,2,[[ow 4 0 a.2.1,i64 a.2.2]]⟩,Ct,Hd p1.decls p1.funcs,J9 p2.op p2.num p2.kids,Ck a.2.1,Qg q,BP i]⟩->k2 s:=by
       intro t hq s K;subst d1;refine d0 _ (AF K (Bu 23 (by kernel_rfl) (by kernel_rfl) (by rfl) ?_));iterate 5 refine yq tb rfl ?_
       refine bs c λP d3 c=>yz (Cz P.op P.num P.kids) (CI Bq AA AA d3 (Aj _) rfl) rfl ?_;iterate 7 refine yq tb rfl ?_
       refine bs c λd4 d5 c=>?_;refine Fa (BS.wk (KW d5) (by refine Wk.trans (Wk.Bg (L:=[(0,ls eI d4)]) (st':=S6) (id:=0) rfl tw Bf ⟨.Bg AA,pw⟩ AA) ?_;exact BH [] .nil (.same AA))) ?_;refine bs c λd6 d7 c=>?_;refine Fa (BS.wk (Eg d7) (by refine Wk.trans (Wk.Bg (L:=[(0,ls eI d6)]) (st':=S6) (id:=0) rfl tw Bf ⟨.Bg AA,pw⟩ AA) ?_;exact BH [] .nil (.same AA))) ?_;iterate 6 refine yq tb rfl ?_
       refine bs c λQ d8 c=>Fa (vO d8) (Gv (l:=[Q]) (enc:=EZ) AT Rv (by decide) rfl AA AA AA AA Bf (Ao (bs c λR d9 c=>Lb [Q] Rv AA N8 d9 (AR AA (Ad c9 (AE AA (Ae 3 AA ?_)))))));exact AB (xi (Sh.w (C+1),R) c (by refine Wk.trans (CS (L:=[(0,Aq),(3,ls eI p3),(5,Ca),(6,G1),(10,i64 a.1),(11,ow 5 0 R),(12,ow 6 0 i),(13,Kp C)]) (st':=[⟨0,206,2,[[ow 4 0 a.2.1,i64 a.2.2]]⟩,Ct,Hd p1.decls p1.funcs,J9 p2.op p2.num p2.kids,Ck a.2.1,Qg R,BP i]) (.raw AA AA AA (.pure AA nN (.raw AA AA AA (.raw AA AA AA (.pure AA (AM Ab) (.pure AA Bf (.pure AA Bf .nil))))))) (.same AA)) ?_;exact Ip AA))
      refine Al AA ?_;refine Az F ?_ ?_<;>intro m0 F
      ·refine Bu 7 (by kernel_rfl) (by kernel_rfl) (by rfl) ?_;iterate 5 refine yq tb rfl ?_
       exact bs F λk3 G F=>yz (.ptr 6 0 (Int.toNat (Sh.w (C-1))) 0) (HC BE AA G) rfl (yz (i64 k3) (CL HP AA AA (CM G) rfl) rfl (Ao (bs F λk4 g0 F=>HX (hb 180) (E9 g0) rfl (Cc AA (AR AA (AB (d2 (Sh.len k4) (BU F) _ Au)))))))
      ·exact AH (d2 0 (BU F) _ Au)
     ·exact As (k1 q (BU c) _ (by refine Wk.trans (G2 (L:=[(0,Aq),(6,Ca),(10,i64 a.1),(11,ow 4 0 q)]) (st':=[kB a.2.1 a.2.2,Ct,J9 p2.op p2.num p2.kids,Ck a.2.1,Qg q]) (st1:=[⟨0,206,2,[[ow 4 0 a.2.1,i64 a.2.2]]⟩,Ct,J9 p2.op p2.num p2.kids,Ck a.2.1,Qg q]) [0,1,3,4,5] (.w (.pure nN (.w (.pure (AM Ab) (.p .nil))))) (.same AA)) ?_;exact Ip AA))
    ·refine AH (h6 _ (Ai λm1 g1=>CF 5 ([]:List Int) eI BE AA (AR AA (Ad g1 (AD λk5 g2=>Al AA (bs h0 λS c h0=>?_))))));have k6:∀z A k,S=(z,A,k)->∀s,Wk 2 s ⟨148,AL [(0,Aq),(6,G1),(15,ow 4 0 A)],[Px k z,Ct,Ck k,J9 p2.op p2.num p2.kids,BP A]⟩->k5 s:=by
      rintro z A k rfl s K;refine g2 _ (AF K (Ai λm2 g3=>Ae 6 AA (CF 5 ([]:List Block) EZ Rv AA (zz (.agg [i64 p2.op,i64 p2.num,i64 0,ow 4 0 A,.own 5 0 (List.length ([]:List Block))]) (DA bu dQ P8 AA AA) rfl (D8 [(139,Aq),(146,.agg [i64 p2.op,i64 p2.num,i64 0,ls eI A,.own 5 0 (List.length ([]:List Block))])] [Px k z,Ct,Ck k,J9 p2.op p2.num p2.kids,⟨1,3,1,[]⟩,ro 0 48 2 EZ ([]:List Block)] 4 AA ⟨.rfl,.agg ⟨.rfl,.rfl,.rfl,.Gs AA,.rfl,pw⟩,pw⟩ Cv AA (D8 [(139,Aq),(146,.agg [i64 p2.op,i64 p2.num,i64 0,ls eI A,.sl (List.map EZ [])])] [Px k z,Ct,Ck k,J9 p2.op p2.num p2.kids,⟨1,3,1,[]⟩,eN] 5 AA ⟨.rfl,.agg ⟨.rfl,.rfl,.rfl,.rfl,.Gs AA,pw⟩,pw⟩ Cv AA (bs h0 λh g4 h0=>?_)))))));refine DX (rowsP:=[Px k z,Ck k]) (rows0:=(YF k z)) (rows1:=[Px h.2.1 h.2.2,Ct]) (rows2:=[Ck h.2.1]) (rows1':=[Va h.2.1 h.2.2,Ct]) (rows2':=[Ck h.2.1]) (st':=[Va h.2.1 h.2.2,Ct,Ct,J9 p2.op p2.num p2.kids,⟨1,3,1,[]⟩,eN,Ck h.2.1]) (v':=(i64 h.1)) [0,2] AT (hb 236) (Mg g4) rfl (by decide) rfl AA (.raw AA AA (.pure (AM Ab) .nil)) rfl AA (.raw AA AA (.pure nN .nil)) (.pure (AM Ab) .nil) rfl AA ?_;refine AR AA (Ad g3 ?_);cases h0;exact Ap (xr (G2 (L:=[(8,i64 h.1)]) (st':=(Nu h.2.1 h.2.2)) (st1:=[Va h.2.1 h.2.2,Ct,Ck h.2.1]) [0,1,6] (.w (.pure nN (.pure (AM Ab) .nil))) (.same AA)))
     refine AJ (Ix (σ:=Int×Int×(List Int)×(List Step)) (λn v=>DL p1 p2 p3 vA n v.1 v.2.1 v.2.2.1 v.2.2.2=some S) (λ(E,B,y,o)=>⟨148,AL [(0,.ptr 0 0 0 0),(3,ls eI p3),(5,.ptr 3 0 0 0),(6,.ptr 4 0 0 0),(15,ow 5 0 y),(16,i64 E)],[⟨0,206,2,[[ow 2 0 o,i64 B]]⟩,⟨1,80,5,[]⟩,ro 0 80 5 C8 o,Hd p1.decls p1.funcs,J9 p2.op p2.num p2.kids,ro 0 3 1 eI y]⟩) N (0,uV,[],s1) c Au (λ_ hv=>by rw[DL]at hv;cases hv) ?_);rintro n ⟨E,B,y,o⟩ c;rw[DL]at c;refine AD λm3 g5=>Ai λm4 g6=>Ae 3 AA (Cc AA (AR AA (Ad g6 ?_)));refine Az c ?_ ?_<;>intro m5 c
     ·refine AH (g5 _ (AD λm6 g7=>AJ (AD λm7 g8=>Bu 8 (by kernel_rfl) (by kernel_rfl) (by rfl) ?_)));iterate 5 refine yq tb rfl ?_
      refine bs c λT g9 c=>yz (Cz T.op T.num T.kids) (CI Bq AA AA g9 (Aj _) rfl) rfl ?_;iterate 2 refine yq tb rfl ?_
      refine Ao (bs c λb h3 c=>?_);refine DX (rowsP:=[Px o B,Ck o]) (rows0:=(YF o B)) (rows1:=[Px b.2.1 b.2.2,Ct]) (rows2:=[Ck b.2.1]) (rows1':=[Va b.2.1 b.2.2,Ct]) (rows2':=[Ck b.2.1]) (st':=[Va b.2.1 b.2.2,Ct,Ct,Hd p1.decls p1.funcs,J9 p2.op p2.num p2.kids,BP y,Ck b.2.1]) (v':=(i64 b.1)) [0,2] AT (hb 184) (vW h3) rfl (by decide) rfl AA (.raw AA AA (.pure (AM Ab) .nil)) rfl AA (.raw AA AA (.pure nN .nil)) (.pure (AM Ab) .nil) rfl AA ?_;refine AR AA (Ad g8 (AE AA (Ae 2 AA (CF 7 [b.1] eI BE AA (bs c λD h4 c=>Lb [b.1] BE AA (E8 AA AA) h4 (AR AA (Ad g7 (AE AA (Ae 3 AA ?_)))))))));exact AB (xi (Sh.w (E+1),b.2.2,D,b.2.1) c (by refine Wk.trans (CS (L:=(lx p3 [(15,ow 5 0 D),(16,Kp E)])) (st':=[Va b.2.1 b.2.2,Ct,⟨0,80,5,[]⟩,Hd p1.decls p1.funcs,J9 p2.op p2.num p2.kids,BP D,Ck b.2.1,Kv b.1]) (.raw AA AA AA (.pure AA nN (.pure AA nN (.raw AA AA AA (.raw AA AA AA (.pure AA Bf (.pure AA (AM Ab) (.pure AA Bf .nil)))))))) (.same AA)) ?_;refine Wk.trans (G2 (L:=(lx p3 [(15,ow 5 0 D),(16,Kp E)])) (st':=[Px b.2.1 b.2.2,Ct,Ck b.2.1,Hd p1.decls p1.funcs,J9 p2.op p2.num p2.kids,BP D]) (st1:=[Va b.2.1 b.2.2,Ct,Ck b.2.1,Hd p1.decls p1.funcs,J9 p2.op p2.num p2.kids,BP D]) [0,1,6,3,4,5] (.w (.pure nN (.pure (AM Ab) (.w (.w (.p .nil)))))) (.same AA)) ?_;exact Ip AA))
     ·exact As (k6 B y o (BU c) _ (by refine Wk.trans (G2 (L:=[(0,Aq),(6,G1),(15,ow 4 0 y)]) (st':=[Px o B,Ct,Ck o,J9 p2.op p2.num p2.kids,BP y]) (st1:=[Px o B,Ct,Ck o,J9 p2.op p2.num p2.kids,BP y]) [0,1,2,4,5] (.w (.pure nN (.pure (AM Ab) (.w (.p .nil))))) (.same AA)) ?_;exact Ip AA))
   refine Al AA ?_;refine Az c ?_ ?_<;>intro k7 c
   ·exact AH (b4 true (BU c) _ (Dh (lx p3 [(48,.bool true)]) ⟨.rfl,.rfl,.rfl,.rfl,.of (rC AV.bool k7),pw⟩))
   ·exact AE AA (Ae 2 AA (AB (b4 (decide (p2.op=8)) (BU c) _ Au)))
theorem O6 {N:Nat}{uf:AP->AG->(List Int)->Int->Option (Block)}(vO :∀{p0:AP} {p1:AG} {p2:(List Int)} {p3:Int} {r:Block},uf p0 p1 p2 p3=some r->Bn 111 [Jn p0.decls p0.funcs,BJ p1.op p1.num p1.kids,ls eI p2,i64 p3] [] (I0 r) []):∀(n:Nat),∀{uV:Int} {s1:(List Step)} {p1:AP} {p2:AG} {p3:(List Int)} {r:Int×(List Step)×Int},EY N uf n uV s1 p1 p2 p3=some r->Bn 184 [Aq,Jn p1.decls p1.funcs,BJ p2.op p2.num p2.kids,ls eI p3] (YF s1 uV) (i64 r.1) (Nu r.2.1 r.2.2):=by
 intro n
 induction n with
 | zero=>intro uV s1 p1 p2 p3 r a;cases a
 | succ n ih=>
  intro uV s1 p1 p2 p3 r a;rw[EY]at a;exact O7 vO (λh=>ih h) a
theorem QR {N:Nat}{uf:AP->AG->(List Int)->Int->Option (Block)}(vO :∀{p0:AP} {p1:AG} {p2:(List Int)} {p3:Int} {r:Block},uf p0 p1 p2 p3=some r->Bn 111 [Jn p0.decls p0.funcs,BJ p1.op p1.num p1.kids,ls eI p2,i64 p3] [] (I0 r) []):∀{uV:Int} {s1:(List Step)} {p1:AP} {p2:AG} {p3:(List Int)} {r:Int×(List Step)×Int},Is N uf uV s1 p1 p2 p3=some r->Bn 184 [Aq,Jn p1.decls p1.funcs,BJ p2.op p2.num p2.kids,ls eI p3] (YF s1 uV) (i64 r.1) (Nu r.2.1 r.2.2):=by
 intro uV s1 p1 p2 p3 r a;exact O6 vO N a
theorem Rf {N:Nat}{uf:AP->AG->(List Int)->Int->Option (Block)}(vO :∀{p0:AP} {p1:AG} {p2:(List Int)} {p3:Int} {r:Block},uf p0 p1 p2 p3=some r->Bn 111 [Jn p0.decls p0.funcs,BJ p1.op p1.num p1.kids,ls eI p2,i64 p3] [] (I0 r) []){p0:AP}{p1:AG}{p2:(List Int)}{p3:Int}{r:Block}(h0:ID N uf p0 p1 p2 p3=some r):Bn 111 [Jn p0.decls p0.funcs,BJ p1.op p1.num p1.kids,ls eI p2,i64 p3] [] (I0 r) []:=by
 unfold ID at h0;refine Dd AA (Cx Tryz.func111 AA (Ai λh b=>Et 0 AA (Et 1 AA (Cn 2 Rj AA (Ad b (Ai λi c=>?_))))));refine MN (m:=3) (l:=([]:List Step)) (enc:=C8) AT MC (by decide) rfl AA (by simp only[List.map,Gn];rfl) rfl AA AA ?_;refine AR AA (zz (.agg [.own 3 0 (List.length ([]:List Step)),i64 p3]) (DA nf nJ nZ AA AA) rfl (Et 4 AA (AR AA (Ad c (Ai λj d=>Ae 4 AA (bs h0 λa e h0=>?_))))));refine DX (rowsP:=[⟨0,206,2,[[.own 3 0 (List.length ([]:List Step)),i64 p3]]⟩,Y7]) (rows0:=[⟨0,206,2,[[ni,i64 p3]]⟩,Y7]) (rows1:=[Px a.2.1 a.2.2,Ct]) (rows2:=[Ck a.2.1]) (rows1':=[dT a.2.1 a.2.2,Ct]) (rows2':=[Ck a.2.1]) (st':=[Hd p0.decls p0.funcs,J9 p1.op p1.num p1.kids,iD,Ct,dT a.2.1 a.2.2,Ck a.2.1]) (v':=(i64 a.1)) [4,3] AT (hb 184) (QR vO e) rfl (by decide) rfl AA (.raw AA AA (.pure (AM Ab) .nil)) rfl AA (.raw AA AA (.pure nN .nil)) (.pure (AM Ab) .nil) rfl AA ?_;refine AR AA (Ad d (Ai λk f=>Ae 5 AA (zz (.agg [ow 5 0 a.2.1,i64 a.1]) (DA jz kF Rj AA AA) rfl (BD (Wk.Bg (L:=[(8,Ca),(25,.agg (gx a.2.1 a.1))]) (st':=[Hd p0.decls p0.funcs,J9 p1.op p1.num p1.kids,iD,Ct,dT a.2.1 a.2.2,Ct]) (id:=5) rfl (show 0<=5 by decide) (AM Ab) ⟨.rfl,.agg ⟨.Gs AA,.rfl,pw⟩,pw⟩ AA) (Bp WR AA (Ad f ?_))))));cases h0;exact Ap ⟨_,Wk.refl _ _,Gw (.tmp 8) (gx a.2.1 a.1) WR AA _ AA⟩
theorem Re {N:Nat}:∀(n:Nat),∀{p0:AP} {p1:AG} {p2:(List Int)} {p3:Int} {r:Block},Eb N n p0 p1 p2 p3=some r->Bn 111 [Jn p0.decls p0.funcs,BJ p1.op p1.num p1.kids,ls eI p2,i64 p3] [] (I0 r) []:=by
 intro n
 induction n with
 | zero=>intro p0 p1 p2 p3 r a;cases a
 | succ n ih=>
  intro p0 p1 p2 p3 r a;rw[Eb]at a;exact Rf (λh=>ih h) a
theorem N5 {N:Nat}:∀{p0:AP} {p1:AG} {p2:(List Int)} {p3:Int} {r:Block},Mx N p0 p1 p2 p3=some r->Bn 111 [Jn p0.decls p0.funcs,BJ p1.op p1.num p1.kids,ls eI p2,i64 p3] [] (I0 r) []:=by
 intro p0 p1 p2 p3 r a;exact Re N a
theorem Tx {N:Nat}{p0:AP}{r:Ax}(h0:Lr N p0=some r):Bn 58 [Jn p0.decls p0.funcs] [] (.agg (bw r)) []:=by
 unfold Lr at h0;refine Dd AA (Cx Tryz.func58 AA (Ai λK1 P=>Et 0 AA (BD (Wk.Bg (L:=[(1,jD p0.decls p0.funcs)]) (st':=[⟨1,40,2,[]⟩]) (id:=0) rfl tw (Di AA) (.same AA) rfl) (Cn 1 SE AA (Ad P (Ai λK2 Q=>Ae 2 AA (bs h0 λe R h0=>La (ow 2 0 e) (Tb R) ⟨(Bj λ_=>AA),pw⟩ (CF 3 ([]:List CQ) DH SS AA (zz (.agg [ow 2 0 e,.own 3 0 (List.length ([]:List CQ))]) (DA fy gb SE AA AA) rfl (Cn 4 SE AA (D8 [(1,jD p0.decls p0.funcs),(2,DW),(3,Pd),(12,.agg [Cd e,.own 3 0 (List.length ([]:List CQ))])] [⟨1,40,2,[]⟩,MR,QL,ro 0 50 5 DH ([]:List CQ),MR] 2 AA ⟨.rfl,.rfl,.rfl,.agg ⟨.Gs AA,.rfl,pw⟩,pw⟩ Cv AA (Bp PT AA (Ad Q (AD λV S=>Al AA (bs h0 λT i h0=>?_)))))))))))))));have W:∀{z},JJ T z ⟨49,AL [(2,Aq),(3,Ca)],[MR,Ut z,ji e z]⟩ V:=by
  rintro _ ⟨⟩ s X;refine S _ (AF X (Ai λY C=>AR AA (D8 [(2,Aq),(48,.agg (br e T))] [MR,⟨1,50,5,[]⟩,ji e T] 1 AA ⟨.rfl,.agg ⟨.rfl,.Gs AA,pw⟩,pw⟩ Cv AA (Bp PT AA (Ad C ?_)))));cases h0;exact Ap ⟨_,Wk.refl _ _,Gw (.tmp 2) (br e T) PT AA _ AA⟩
 refine AJ (KB (FD N p0) (λk f=>⟨49,AL [(1,.CT [ls Ak p0.decls,ls Bd p0.funcs] 0),(2,.ptr 0 0 0 0),(3,.ptr 2 0 0 0),(4,i64 k)],[MR,ro 0 50 5 DH f,⟨0,30,2,[[ls Ak e,ow 1 0 f]]⟩]⟩) N 0 [] i (G2 (L:=[(1,.CT [ls Ak p0.decls,ls Bd p0.funcs] 0),(2,.ptr 0 0 0 0),(3,.ptr 2 0 0 0),(4,i64 0)]) (st':=[MR,ro 0 50 5 DH ([]:List CQ),⟨0,30,2,[[ls Ak e,.own 1 0 (List.length ([]:List CQ))]]⟩]) (st1:=[MR,ro 0 50 5 DH ([]:List CQ),⟨0,30,2,[[ls Ak e,.own 3 0 (List.length ([]:List CQ))]]⟩]) [1,3,4] (.w (.p (.w .nil))) (.same AA)) ?_);intro n k f i;rw[FD]at i;refine AD λZ D=>Ai λb0 E=>Ae 3 AA (Cc AA (AR AA (Ad E ?_)));refine Az i ?_ ?_<;>intro b1 i
 ·refine AH (D _ (AD λb2 G=>AJ (Ai λb3 H=>Ae 3 AA (bs i λa I i=>Gz Ee I AA (AR AA (Cn 3 PZ AA (Bp Mf AA (BD (Wk.Bg (L:=[(1,jD p0.decls p0.funcs),(2,Aq),(3,Ca),(4,i64 k),(5,bF a.params a.result a.body.op a.body.num a.body.kids)]) (st':=[MR,Ut f,ji e f,Y0]) (id:=3) rfl (show 0<=3 by decide) (Di AA) (.same AA) rfl) (Ad H (Ai λb4 J=>Ae 2 AA (Cc AA (AR AA (Ad J (AD λb5 K=>JX (by kernel_rfl) (bs i λo A i=>bs i λh B i=>NY (f':=9) (listed':=(bm 9 0)) rfl (by kernel_rfl) (hZ 0 (Jn p0.decls p0.funcs) rfl (MB IL AA tv rfl) (hZ 1 (.CT (ZF a.params a.result a.body.op a.body.num a.body.kids) 2) rfl (CH (NL Wt AA AA)) (hZ 2 (BJ a.body.op a.body.num a.body.kids) rfl (MB BY AA uJ rfl) (hZ 3 (Cb a.params) rfl (CH (D7 AA)) (hZ 5 (Cb a.params) rfl (CH (D7 AA)) (NU (L9 λA21 b=>?_))))))))))))))))))))));have g:A21 0 (bm 9 511) ⟨49,AL (YP p0.decls p0.funcs k a.params a.result a.body.op a.body.num a.body.kids [(7,.CT (jd h) 0)]),fA e f⟩:=(b _ _ _).2 (by
   refine Kf AA (by kernel_rfl) (K _ (Bu 11 (by kernel_rfl) (by kernel_rfl) (by rfl) ?_));iterate 4 refine yq tb rfl ?_
   refine bs i λy M i=>?_;refine Fa (BS.wk (MU M) (by refine Wk.trans (Wk.Bg (L:=[(0,ls eI y)]) (st':=S6) (id:=0) rfl tw Bf ⟨.Bg AA,pw⟩ AA) ?_;exact BH [] .nil (.same AA))) ?_;refine Gv (l:=([]:List Int)) (enc:=eI) AT BE (by decide) rfl AA AA AA AA Bf ?_;iterate 3 refine yq tb rfl ?_
   refine yz (.agg [ls eI y,Sv,i64 a.result,ls C8 h.steps,i64 h.result]) (DA mv my WI AA AA) rfl (Gv (l:=([CQ.mk y [] a.result h])) (enc:=DH) AT SS (by decide) rfl AA AA AA AA Bf (Ao (bs i λu O i=>Lb ([CQ.mk y [] a.result h]) SS AA N8 O (AR AA (Bp mw AA (Ad G (AE AA (Ae 3 AA ?_))))))));exact AB (xi (Sh.w (k+1),u) i (by refine Wk.trans (Eh (L:=[(1,jD p0.decls p0.funcs),(2,Aq),(3,DW),(4,Kp k)]) (st':=(fA e u)) (.raw AA AA (.raw AA AA (.pure Bf .nil))) (.same AA)) ?_;exact G2 (L:=[(1,jD p0.decls p0.funcs),(2,Aq),(3,Ca),(4,Kp k)]) (st':=[MR,Ut u,ji e u]) (st1:=[MR,Ut u,Y2 e u]) [0,2,1] (.w (.p (.w .nil))) (.same AA))))
  have c:A21 1 (bm 9 255) ⟨49,AL (YP p0.decls p0.funcs k a.params a.result a.body.op a.body.num a.body.kids [(7,G1),(34,I0 h)]),[MR,Y2 e f,Ut f,iD]⟩:=(b _ _ _).2 (by
   refine ya [8] ⟨?_,pw⟩
   ·refine yo 8 ?_;exact Bp WR AA (BD (Wk.Bg (L:=(YP p0.decls p0.funcs k a.params a.result a.body.op a.body.num a.body.kids [(7,.CT (jd h) 0)])) (st':=[MR,Y2 e f,Ut f,eN]) (id:=3) rfl (show 0<=3 by decide) (Di AA) (.same AA) rfl) (Wg b g (by exact BH [0,1,2] (.w (.w (.p .nil))) (.same AA)))))
  have j:A21 2 (bm 9 127) ⟨49,AL (YP p0.decls p0.funcs k a.params a.result a.body.op a.body.num a.body.kids [(34,I0 h)]),fA e f⟩:=(b _ _ _).2 (by
   refine ya [7] ⟨?_,pw⟩
   ·refine yo 7 ?_;exact Cn 3 Rj AA (yd b c))
  have d:A21 2 (bm 9 191) ⟨49,AL (YP p0.decls p0.funcs k a.params a.result a.body.op a.body.num a.body.kids [(7,G1),(28,Jn p0.decls p0.funcs),(30,BJ a.body.op a.body.num a.body.kids),(32,ow 4 0 o),(33,Cb a.params)]),[MR,Y2 e f,Ut f,iD,BP o]⟩:=(b _ _ _).2 (by
   refine ya [6] ⟨?_,pw⟩
   ·refine yo 6 ?_;exact D8 (YP p0.decls p0.funcs k a.params a.result a.body.op a.body.num a.body.kids [(7,G1),(28,Jn p0.decls p0.funcs),(30,BJ a.body.op a.body.num a.body.kids),(32,ls eI o),(33,Cb a.params)]) [MR,Y2 e f,Ut f,iD,⟨1,3,1,[]⟩] 4 AA ⟨.rfl,.rfl,.rfl,.rfl,.rfl,.rfl,.rfl,.rfl,.Bg AA,.rfl,pw⟩ Cv AA (Dj (I0 h) (hb 111) (N5 B) rfl (Wg b c (by exact BH [0,1,2,3] (.w (.w (.p (.w .nil)))) (.same AA)))))
  have p:A21 3 (bm 9 63) ⟨49,AL (YP p0.decls p0.funcs k a.params a.result a.body.op a.body.num a.body.kids [(28,Jn p0.decls p0.funcs),(30,BJ a.body.op a.body.num a.body.kids),(32,ow 3 0 o),(33,Cb a.params)]),[MR,Y2 e f,Ut f,BP o]⟩:=(b _ _ _).2 (by
   refine ya [6,7] ⟨?_,?_,pw⟩
   ·refine yo 6 ?_;exact D8 (YP p0.decls p0.funcs k a.params a.result a.body.op a.body.num a.body.kids [(28,Jn p0.decls p0.funcs),(30,BJ a.body.op a.body.num a.body.kids),(32,ls eI o),(33,Cb a.params)]) [MR,Y2 e f,Ut f,⟨1,3,1,[]⟩] 3 AA ⟨.rfl,.rfl,.rfl,.rfl,.rfl,.rfl,.rfl,.Bg AA,.rfl,pw⟩ Cv AA (Dj (I0 h) (hb 111) (N5 B) rfl (Wg b j (by exact BH [0,1,2] (.w (.w (.p .nil))) (.same AA))))
   ·refine yo 7 ?_;exact Cn 4 Rj AA (Wg b d (by exact BH [0,1,2,4,3] (.w (.w (.p (.w (.p .nil))))) (.same AA))))
  have q:A21 3 (bm 9 175) ⟨49,AL (YP p0.decls p0.funcs k a.params a.result a.body.op a.body.num a.body.kids [(7,G1),(28,Jn p0.decls p0.funcs),(30,BJ a.body.op a.body.num a.body.kids),(31,Cb a.params),(33,Cb a.params)]),[MR,Y2 e f,Ut f,iD]⟩:=(b _ _ _).2 (by
   refine ya [4] ⟨?_,pw⟩
   ·refine yo 4 ?_;exact La (ow 4 0 o) (KW A) ⟨(Bj λ_=>AA),pw⟩ (yd b d))
  have t:A21 4 (bm 9 47) ⟨49,AL (YP p0.decls p0.funcs k a.params a.result a.body.op a.body.num a.body.kids [(28,Jn p0.decls p0.funcs),(30,BJ a.body.op a.body.num a.body.kids),(31,Cb a.params),(33,Cb a.params)]),fA e f⟩:=(b _ _ _).2 (by
   refine ya [4,7] ⟨?_,?_,pw⟩
   ·refine yo 4 ?_;exact La (ow 3 0 o) (KW A) ⟨(Bj λ_=>AA),pw⟩ (yd b p)
   ·refine yo 7 ?_;exact Cn 3 Rj AA (yd b q))
  refine (b _ _ _).2 ?_;exact yw b t (by exact G2 (L:=(YP p0.decls p0.funcs k a.params a.result a.body.op a.body.num a.body.kids [(28,Jn p0.decls p0.funcs),(30,BJ a.body.op a.body.num a.body.kids),(31,Cb a.params),(33,Cb a.params)])) (st':=(fA e f)) (st1:=[MR,ji e f,Ut f]) [0,2,1] (.w (.w (.p .nil))) (.same AA))
 ·exact As (W i Au)
theorem Tc {N:Nat}{p0:AP}{r:Ax×Bool}(h0:IV N p0=some r):Bn 18 [Jn p0.decls p0.funcs] [] (.Dv [.agg (br r.1.decls r.1.AU),.bool r.2]) []:=by
 unfold IV at h0;refine Dd AA (Cx Tryz.func18 AA (Ai λk c=>Et 0 AA (Cn 1 SE AA (AR AA (Ad c (AD λl d=>Ai λn e=>AR AA (bs h0 λi f h0=>HX (hb 57) (RZ f) rfl (AR AA (Ad e ?_)))))))));refine Az h0 ?_ ?_<;>intro j h0
 ·have o:i=false:=by simpa using j
  refine Ai λp g=>zz (.agg [.zc,.zc]) (DA fy gb SE AA AA) rfl (Bp PT AA (AR AA (Ad g ?_)));cases h0;exact Ap ⟨_,(((Hk (id:=1) (cs:=[.zc,.zc]) (cs':=[YX,.zc]) (st':=[Hd p0.decls p0.funcs,⟨0,30,2,[[YX,.zc]]⟩]) rfl ⟨le.zc,le.rfl,pw⟩ AA AA).trans (Hk (id:=1) (cs:=[YX,.zc]) (cs':=dF) (st':=[Hd p0.decls p0.funcs,⟨0,30,2,[dF]⟩]) rfl ⟨le.rfl,le.zc,pw⟩ AA AA)).trans (BH (L:=(iG [])) (st':=[⟨0,30,2,[dF]⟩]) [1] (.w .nil) ⟨.rfl,.rfl,pw⟩)).trans (Dh (iG []) ⟨.rfl,.rfl,pw⟩),Gw (.tmp 2) dF PT AA _ AA⟩
 ·have q:i=true:=by simpa using j
  refine AH (d _ (Ai λs h=>AR AA (bs h0 λa b h0=>Dj (.agg (bw a)) (hb 58) (Tx b) rfl (Bp PT AA (AR AA (Ad h ?_))))));cases h0;exact Ap ⟨_,(BH (L:=[(2,Aq),(3,.bool true)]) (st':=[Vx a.decls a.AU]) [1] (.w .nil) ⟨.rfl,.rfl,pw⟩).trans (Dh [(2,Aq),(3,.bool true)] ⟨.rfl,.rfl,pw⟩),Gw (.tmp 2) (bw a) PT AA _ AA⟩
theorem H5 {N:Nat}{p0:(List Int)}{p1:(List Int)}{r:Bool}(h0:GC N p0 p1=some r):Bn 23 [ls eI p0,ls eI p1] [] (.bool r) []:=by
 unfold GC at h0;refine Cx Tryz.func23 AA (Al AA (AD λG m=>Ai λH o=>AR AA (Cc AA (AR AA (Cc AA (AR AA (Ad o ?_)))))));refine Az h0 ?_ ?_<;>intro t h0
 ·have I:decide ((Sh.len p0)=(Sh.len p1))=false:=by simpa using t
  refine Al AA ?_;cases h0;exact rt [(4,.bool false)]
 ·have J:decide ((Sh.len p0)=(Sh.len p1))=true:=by simpa using t
  refine AH (m _ (AD λx p=>Al AA ?_));obtain⟨b,a,h0⟩:=Sh.BZ h0;have q:JJ b (.inr ()) ⟨26,AL [],[]⟩ x:=by
   rintro⟨⟩ s y;refine p _ (AF y (Al AA ?_));cases h0;exact rt [(4,.bool true)]
  refine AJ (Le (FO p0 p1) (λc=>⟨26,AL [(0,ls eI p0),(1,ls eI p1),(5,i64 c)],[]⟩) N 0 a Au ?_);intro n c a;rw[FO]at a;refine AD λz d=>Ai λA e=>Ae 2 AA (Cc AA (AR AA (Ad e ?_)));refine Az a ?_ ?_<;>intro B a
  ·refine AH (d _ (AD λC f=>AJ (AD λD g=>CZ (by kernel_rfl) (by kernel_rfl) (by rfl) ?_)));iterate 2 refine yq tb rfl ?_
   refine bs a λh i a=>Mt BE i AA ?_;iterate 3 refine yq tb rfl ?_
   refine bs a λj k a=>Mt BE k AA ?_;iterate 2 refine yq tb rfl ?_
   refine Ao (g _ ?_);refine Az a ?_ ?_<;>intro l a
   ·have E:decide (h=j)=false:=by simpa using l
    refine Al AA ?_;cases a;cases h0;exact rt [(4,.bool false)]
   ·have F:decide (h=j)=true:=by simpa using l
    exact AH (f _ (AE AA (Ae 3 AA (AB (xi (Sh.w (c+1)) a Au)))))
  ·exact As (q a Au)
theorem N4 {N:Nat}{p0:(List AI)}{p1:(List AI)}{r:Bool}(h0:Hv N p0 p1=some r):Bn 24 [Cd p0,Cd p1] [] (.bool r) []:=by
 unfold Hv at h0;refine Cx Tryz.func24 AA (Al AA (AD λK2 M=>Ai λK3 O=>AR AA (Cc AA (AR AA (Cc AA (AR AA (Ad O ?_)))))));refine Az h0 ?_ ?_<;>intro U h0
 ·have b5:decide ((Sh.len p0)=(Sh.len p1))=false:=by simpa using U
  refine Al AA ?_;cases h0;exact rt [(4,.bool false)]
 ·have b7:decide ((Sh.len p0)=(Sh.len p1))=true:=by simpa using U
  refine AH (M _ (AD λW P=>Al AA ?_));obtain⟨k,d,h0⟩:=Sh.BZ h0;have Q:JJ k (.inr ()) ⟨87,AL [],[]⟩ W:=by
   rintro⟨⟩ s t;refine P _ (AF t (Al AA ?_));cases h0;exact rt [(4,.bool true)]
  refine AJ (Le (Ep N p0 p1) (λe=>⟨87,AL [(0,ls Ak p0),(1,ls Ak p1),(5,i64 e)],[]⟩) N 0 d Au ?_);intro n e d;rw[Ep]at d;refine AD λX x=>Ai λY y=>Ae 2 AA (Cc AA (AR AA (Ad y ?_)));refine Az d ?_ ?_<;>intro Z d
  ·refine AH (x _ (AD λR z=>AJ (AD λb0 A=>AD λS B=>bs d λC a d=>?_)));have l:∀{m},JJ C m ⟨87,AL [(0,Cd p0),(1,Cd p1),(5,i64 e),(56,.bool m)],[]⟩ S:=by
    rintro _ ⟨⟩ s t;refine B _ (AF t ?_);refine Az d ?_ ?_<;>intro b1 d
    ·refine Al AA ?_;cases d;cases h0;exact rt [(4,.bool false)]
    ·refine AH (A _ (Al AA ?_));obtain⟨o,a,d⟩:=Sh.BZ d;have T:JJ o (.inr ()) ⟨87,AL [(0,Cd p0),(1,Cd p1),(5,i64 e)],[]⟩ R:=by
      rintro⟨⟩ s t;exact z _ (AF t (AE AA (Ae 3 AA (AB (xi (Sh.w (e+1)) d Au)))))
     refine AJ (Le (Er N e p0 p1) (λp=>⟨87,AL [(0,ls Ak p0),(1,ls Ak p1),(5,i64 e),(6,i64 p)],[]⟩) N 0 a Au ?_);intro n p a;rw[Er]at a;refine AD λb2 D=>Ai λb3 E=>Ae 3 AA (bs a λb6 j a=>Gz DZ j AA (Ae 2 AA (Cc AA (AR AA (Ad E ?_)))));refine Az a ?_ ?_<;>intro b8 a
     ·refine AH (D _ (AD λb9 F=>AJ (AD λc0 G=>CZ (by kernel_rfl) (by kernel_rfl) (by rfl) ?_)));iterate 2 refine yq tb rfl ?_
      refine Mt DZ j AA ?_;iterate 3 refine yq tb rfl ?_
      refine bs a λc1 H a=>Mt Hg H AA ?_;iterate 4 refine yq tb rfl ?_
      refine bs a λc2 I a=>Mt DZ I AA ?_;iterate 3 refine yq tb rfl ?_
      refine bs a λc3 J a=>Mt Hg J AA ?_;iterate 2 refine yq tb rfl ?_
      refine bs a λq K a=>Fa (H5 K) (yq tb AA (Ao (G _ ?_)));refine Az a ?_ ?_<;>intro L a
      ·have c4:q=false:=by simpa using L
       refine Al AA ?_;cases a;cases d;cases h0;exact rt [(4,.bool false)]
      ·have c5:q=true:=by simpa using L
       exact AH (F _ (AE AA (Ae 3 AA (AB (xi (Sh.w (p+1)) a Au)))))
     ·exact As (T a Au)
   refine CZ (by kernel_rfl) (by kernel_rfl) (by rfl) ?_;iterate 2 refine yq tb rfl ?_
   refine bs a λh f a=>Mt DZ f AA ?_;iterate 4 refine yq tb rfl ?_
   refine bs a λi g a=>Mt DZ g AA ?_;iterate 4 refine yq tb rfl ?_
   rcases Sh.Aa a with ⟨c,a⟩|⟨c,a⟩
   ·refine ys c AA ?_;iterate 10 refine ys c rfl ?_
    refine yt c AA (yq tb AA ?_);iterate 13 refine ys rfl rfl ?_
    exact yt AA AA (Ao (l a Au))
   ·refine yg tb c AA (yg tb c AA (I7 (v:=(UU h)) (GF AA AA c) rfl (JT DZ AA f) ?_));iterate 4 refine yg tb c rfl ?_
    refine I7 (v:=(UU i)) (GF AA AA c) rfl (JT DZ AA g) ?_;iterate 3 refine yg tb c rfl ?_
    refine yf c AA (yq tb AA ?_);rcases Sh.Aa a with ⟨b,a⟩|⟨b,a⟩
    ·refine ys b AA ?_;iterate 12 refine ys b rfl ?_
     exact yt b AA (Ao (l a Au))
    ·refine yg tb b AA (yg tb b AA (I7 (v:=(UU h)) (GF AA AA b) rfl (JT DZ AA f) ?_));iterate 2 refine yg tb b rfl ?_
     refine I7 (v:=(Yu h)) (GF AA AA b) rfl (By Oe AA) ?_;iterate 2 refine yg tb b rfl ?_
     refine I7 (v:=(UU i)) (GF AA AA b) rfl (JT DZ AA g) ?_;iterate 2 refine yg tb b rfl ?_
     exact I7 (v:=(Yu i)) (GF AA AA b) rfl (By Oe AA) (yg tb b AA (yf b AA (Ao (l a Au))))
  ·exact As (Q d Au)
theorem Th {N:Nat}{uu:Block->Block->Option (Bool)}(vd :∀{p0:Block} {p1:Block} {r:Bool},uu p0 p1=some r->Bn 59 [I0 p0,I0 p1] [] (.bool r) []){p0 p1:Step}{r:Bool}(h0:Jr N uu p0 p1=some r):Bn 114 [.agg (Tj p0),.agg (Tj p1)] [] (.bool r) []:=by
 unfold Jr at h0;refine Cx Tryz.func114 AA (Ai λV y=>Et 0 AA (Et 1 AA (AR AA (Ad y (AD λW z=>AD λH A=>bs h0 λF a h0=>?_)))));have i:∀{B},JJ F B ⟨61,AL [(2,Aq),(3,DW),(41,.bool B)],[je p0.op p0.num p0.Ed p0.args p0.kids,je p1.op p1.num p1.Ed p1.args p1.kids]⟩ H:=by
  rintro _ ⟨⟩ s C;refine A _ (AF C ?_);refine Az h0 ?_ ?_<;>intro X h0
  ·refine Al AA ?_;cases h0;exact rd [(4,.bool false)]
  ·refine AH (z _ (AD λJ D=>Al AA ?_));obtain⟨f,a,h0⟩:=Sh.BZ h0;have E:JJ f (.inr ()) ⟨61,AL [],[]⟩ J:=by
    rintro⟨⟩ s C;refine D _ (AF C (Al AA ?_));cases h0;exact rt [(4,.bool true)]
   refine AJ (Le (FB p0 p1 uu) (λg=>⟨61,AL [(2,.ptr 0 0 0 0),(3,.ptr 1 0 0 0),(5,i64 g)],[je p0.op p0.num p0.Ed p0.args p0.kids,je p1.op p1.num p1.Ed p1.args p1.kids]⟩) N 0 a Au ?_);intro n g a;rw[FB]at a;refine AD λK j=>Ai λL k=>Ae 3 AA (Cc AA (AR AA (Ad k ?_)));refine Az a ?_ ?_<;>intro M a
   ·refine AH (j _ (AD λO l=>AJ (AD λP o=>CZ (by kernel_rfl) (by kernel_rfl) (by rfl) ?_)));iterate 3 refine yq tb rfl ?_
    refine bs a λQ p a=>Mt Rv p AA ?_;iterate 4 refine yq tb rfl ?_
    refine bs a λR q a=>Mt Rv q AA (yq tb AA (bs a λh t a=>Fa (vd t) (yq tb AA (Ao (o _ ?_)))));refine Az a ?_ ?_<;>intro u a
    ·have S:h=false:=by simpa using u
     refine Al AA ?_;cases a;cases h0;exact rd [(4,.bool false)]
    ·have T:h=true:=by simpa using u
     exact AH (l _ (AE AA (Ae 3 AA (AB (xi (Sh.w (g+1)) a Au)))))
   ·exact As (E a (Bi _ AA))
 refine AE AA (Ae 6 AA ?_);rcases Sh.Aa a with ⟨d,a⟩|⟨d,a⟩
 ·refine zs d AA ?_;iterate 4 refine zs d rfl ?_
  refine zt d AA (AR AA ?_);iterate 5 refine zs rfl rfl ?_
  refine zt AA AA (AR AA ?_);iterate 6 refine zs rfl rfl ?_
  refine zt AA AA (AR AA ?_);iterate 7 refine zs rfl rfl ?_
  exact zt AA AA (AB (i a Au))
 ·refine Am d AA ?_;iterate 4 refine Am d rfl ?_
  refine zf d AA (AR AA ?_);rcases Sh.Aa a with ⟨e,a⟩|⟨e,a⟩
  ·refine zs e AA ?_;iterate 4 refine zs e rfl ?_
   refine zt e AA (AR AA ?_);iterate 6 refine zs rfl rfl ?_
   refine zt AA AA (AR AA ?_);iterate 7 refine zs rfl rfl ?_
   exact zt AA AA (AB (i a Au))
  ·refine Am e AA ?_;iterate 4 refine Am e rfl ?_
   refine zf e AA (AR AA ?_);rcases Sh.Aa a with ⟨c,a⟩|⟨c,a⟩
   ·refine zs c AA ?_;iterate 5 refine zs c rfl ?_
    refine zt c AA (AR AA ?_);iterate 7 refine zs rfl rfl ?_
    exact zt AA AA (AB (i a Au))
   ·refine Am c AA ?_;iterate 3 refine Am c rfl ?_
    refine bs a λU x a=>Oz c (H5 x) rfl (Am c AA (zf c AA (AR AA ?_)));rcases Sh.Aa a with ⟨b,a⟩|⟨b,a⟩
    ·refine zs b AA ?_;iterate 6 refine zs b rfl ?_
     exact zt b AA (AB (i a Au))
    ·exact Am b AA (Am b AA (DQ (Cb p0.kids) b (By bZ AA) (Am b AA (Am b AA (DQ (Cb p1.kids) b (By bZ AA) (Am b AA (zf b AA (AB (i a Au)))))))))
theorem RU {N:Nat}{uu:Block->Block->Option (Bool)}(vd :∀{p0:Block} {p1:Block} {r:Bool},uu p0 p1=some r->Bn 59 [I0 p0,I0 p1] [] (.bool r) []){p0 p1:Block}{r:Bool}(h0:JY N uu p0 p1=some r):Bn 59 [I0 p0,I0 p1] [] (.bool r) []:=by
 unfold JY at h0;refine Cx Tryz.func59 AA (Ai λQ p=>Et 0 AA (Et 1 AA (AR AA (Ad p (AD λR q=>AD λF t=>bs h0 λC a h0=>?_)))));have D:∀{u},JJ C u ⟨39,AL [(2,Aq),(3,DW),(19,.bool u)],[⟨0,48,2,[jd p0]⟩,⟨0,48,2,[jd p1]⟩]⟩ F:=by
  rintro _ ⟨⟩ s x;refine t _ (AF x ?_);refine Az h0 ?_ ?_<;>intro S h0
  ·refine Al AA ?_;cases h0;exact rd [(4,.bool false)]
  ·refine AH (q _ (AD λH y=>Al AA ?_));obtain⟨c,a,h0⟩:=Sh.BZ h0;have z:JJ c (.inr ()) ⟨39,AL [],[]⟩ H:=by
    rintro⟨⟩ s x;refine y _ (AF x (Al AA ?_));cases h0;exact rt [(4,.bool true)]
   refine AJ (Le (EA N p0 p1 uu) (λd=>⟨39,AL [(2,.ptr 0 0 0 0),(3,.ptr 1 0 0 0),(5,i64 d)],[⟨0,48,2,[[ls C8 p0.steps,i64 p0.result]]⟩,⟨0,48,2,[[ls C8 p1.steps,i64 p1.result]]⟩]⟩) N 0 a Au ?_);intro n d a;rw[EA]at a;refine AD λI f=>Ai λJ g=>Ae 3 AA (Cc AA (AR AA (Ad g ?_)));refine Az a ?_ ?_<;>intro K a
   ·refine AH (f _ (AD λL h=>AJ (AD λM i=>CZ (by kernel_rfl) (by kernel_rfl) (by rfl) ?_)));iterate 3 refine yq tb rfl ?_
    refine bs a λA j a=>yz (.CT (Tj A) 0) (CI MC AA AA j (Gn _) rfl) rfl ?_;iterate 4 refine yq tb rfl ?_
    refine bs a λB k a=>yz (.CT (Tj B) 0) (CI MC AA AA k (Gn _) rfl) rfl (yq tb AA (bs a λe l a=>Fa (Th vd l) (yq tb AA (Ao (i _ ?_)))));refine Az a ?_ ?_<;>intro o a
    ·have O:e=false:=by simpa using o
     refine Al AA ?_;cases a;cases h0;exact rd [(4,.bool false)]
    ·have P:e=true:=by simpa using o
     exact AH (h _ (AE AA (Ae 3 AA (AB (xi (Sh.w (d+1)) a Au)))))
   ·exact As (z a (Bi _ AA))
 refine AE AA (Ae 6 AA ?_);rcases Sh.Aa a with ⟨b,a⟩|⟨b,a⟩
 ·refine zs b AA ?_;iterate 6 refine zs b rfl ?_
  exact zt b AA (AB (D a Au))
 ·exact Am b AA (Am b AA (DQ (i64 (Sh.len p0.steps)) b (By mu AA) (Am b AA (Am b AA (DQ (i64 (Sh.len p1.steps)) b (By mu AA) (Am b AA (zf b AA (AB (D a Au)))))))))
theorem RT {N:Nat}:∀(n:Nat),∀{p0:Block} {p1:Block} {r:Bool},FC N n p0 p1=some r->Bn 59 [I0 p0,I0 p1] [] (.bool r) []:=by
 intro n
 induction n with
 | zero=>intro p0 p1 r a;cases a
 | succ n ih=>
  intro p0 p1 r a;rw[FC]at a;exact RU (λh=>ih h) a
theorem S8 {N:Nat}:∀{p0:Block} {p1:Block} {r:Bool},Mn N p0 p1=some r->Bn 59 [I0 p0,I0 p1] [] (.bool r) []:=by
 intro p0 p1 r a;exact RT N a
theorem NT {N:Nat}{p0 p1:Ax}{r:Bool}(h0:HR N p0 p1=some r):Bn 19 [.agg (bw p0),.agg (bw p1)] [] (.bool r) []:=by
 unfold HR at h0;refine Cx Tryz.func19 AA (Ai λK1 E=>Et 0 AA (Et 1 AA (AR AA (Ad E (AD λK2 F=>AD λR G=>bs h0 λM a h0=>?_)))));have O:∀{H},JJ M H ⟨69,AL [(2,Aq),(3,DW),(22,.bool H)],[Vx p0.decls p0.AU,Vx p1.decls p1.AU]⟩ R:=by
  rintro _ ⟨⟩ s k;refine G _ (AF k ?_);refine Az h0 ?_ ?_<;>intro b6 h0
  ·refine Al AA ?_;cases h0;exact rd [(4,.bool false)]
  ·refine AH (F _ (AD λS I=>Al AA ?_));obtain⟨i,a,h0⟩:=Sh.BZ h0;have J:JJ i (.inr ()) ⟨69,AL [],[]⟩ S:=by
    rintro⟨⟩ s k;refine I _ (AF k (Al AA ?_));cases h0;exact rt [(4,.bool true)]
   refine AJ (Le (EW N p0 p1) (λg=>⟨69,AL [(2,.ptr 0 0 0 0),(3,.ptr 1 0 0 0),(5,i64 g)],[Vx p0.decls p0.AU,Vx p1.decls p1.AU]⟩) N 0 a Au ?_);intro n g a;rw[EW]at a;refine AD λT l=>Ai λU o=>Ae 3 AA (Cc AA (AR AA (Ad o ?_)));refine Az a ?_ ?_<;>intro V a
   ·refine AH (l _ (AD λW p=>AJ (Ai λX q=>Ae 3 AA (bs a λY t a=>Gz SS t AA (AR AA (Cn 2 WI AA (Bp Zc AA (Ad q (Ai λZ u=>Ae 3 AA (bs a λb0 x a=>Gz SS x AA (AR AA (Cn 3 WI AA (Bp Zc AA (Ad u (AD λK y=>bs a λz c a=>?_)))))))))))))));have h:∀{j},JJ z j ⟨69,AL [(2,Aq),(3,DW),(5,i64 g),(68,.bool j)],[Vx p0.decls p0.AU,Vx p1.decls p1.AU]⟩ K:=by
     rintro _ ⟨⟩ s k;refine y _ (AF k ?_);refine Az a ?_ ?_<;>intro b1 a
     ·refine Al AA ?_;cases a;cases h0;exact rd [(4,.bool false)]
     ·exact AH (p _ (AE AA (Ae 3 AA (AB (xi (Sh.w (g+1)) a Au)))))
    refine AE AA (Ae 4 AA (bs c λb2 A c=>HX (hb 23) (H5 A) rfl (Ae 2 AA ?_)));rcases Sh.Aa c with ⟨d,c⟩|⟨d,c⟩
    ·refine zs d AA ?_;iterate 5 refine zs d rfl ?_
     refine zt d AA (AR AA ?_);iterate 5 refine zs rfl rfl ?_
     refine zt AA AA (AR AA ?_);iterate 6 refine zs rfl rfl ?_
     exact zt AA AA (AB (h c (BH [0,1] (.w (.w .nil)) (.same AA))))
    ·refine Am d AA ?_;iterate 3 refine Am d rfl ?_
     refine bs c λb3 B c=>Oz d (H5 B) rfl (Am d AA (zf d AA (AR AA ?_)));rcases Sh.Aa c with ⟨f,c⟩|⟨f,c⟩
     ·refine zs f AA ?_;iterate 4 refine zs f rfl ?_
      refine zt f AA (AR AA ?_);iterate 6 refine zs rfl rfl ?_
      exact zt AA AA (AB (h c (BH [0,1] (.w (.w .nil)) (.same AA))))
     ·refine Am f AA ?_;iterate 4 refine Am f rfl ?_
      refine zf f AA (AR AA ?_);rcases Sh.Aa c with ⟨e,c⟩|⟨e,c⟩
      ·refine zs e AA ?_;iterate 5 refine zs e rfl ?_
       exact zt e AA (AB (h c (BH [0,1] (.w (.w .nil)) (.same AA))))
      ·refine Am e AA ?_;iterate 3 refine Am e rfl ?_
       exact bs c λL C c=>Oz e (S8 C) rfl (Am e AA (zf e AA (AB (h c (BH [0,1] (.w (.w .nil)) (.same AA))))))
   ·exact As (J a (Bi _ AA))
 refine AE AA (Ae 4 AA (bs a λb4 D a=>HX (hb 24) (N4 D) rfl (Ae 2 AA ?_)));rcases Sh.Aa a with ⟨b,a⟩|⟨b,a⟩
 ·refine zs b AA ?_;iterate 6 refine zs b rfl ?_
  exact zt b AA (AB (O a Au))
 ·exact Am b AA (Am b AA (DQ (i64 (Sh.len p0.AU)) b (By kL AA) (Am b AA (Am b AA (DQ (i64 (Sh.len p1.AU)) b (By kL AA) (Am b AA (zf b AA (AB (O a Au)))))))))
theorem Ss {N:Nat}{p0:Ax}{r:Ah×Bool}(h0:JQ N p0=some r):Bn 32 [.agg (bw p0)] [] (.Dv [I1 r.1,.bool r.2]) []:=by
 unfold JQ at h0;refine Dd AA (Cx Tryz.func32 AA (Ai λQ y=>Et 0 AA (Cn 1 WM AA (AR AA (Ad y (AD λR z=>Ai λS A=>Ae 2 AA (Cc AA (AR AA (Ad A ?_)))))))));refine Az h0 ?_ ?_<;>intro T h0
 ·refine Ai λU B=>zz (.agg [.zc,.zc]) (DA jy jb WM AA AA) rfl (Bp Uk AA (AR AA (Ad B ?_)));cases h0;exact Ap ⟨_,(((Hk (id:=1) (cs:=[.zc,.zc]) (cs':=[YX,.zc]) (st':=[Vx p0.decls p0.AU,⟨0,65,2,[[YX,.zc]]⟩]) rfl ⟨le.zc,le.rfl,pw⟩ AA AA).trans (Hk (id:=1) (cs:=[YX,.zc]) (cs':=mY) (st':=[Vx p0.decls p0.AU,⟨0,65,2,[mY]⟩]) rfl ⟨le.rfl,le.zc,pw⟩ AA AA)).trans (BH (L:=(iG [])) (st':=[⟨0,65,2,[mY]⟩]) [1] (.w .nil) ⟨.rfl,.rfl,pw⟩)).trans (Dh (iG []) ⟨.rfl,.rfl,pw⟩),Gw (.tmp 2) mY Uk AA _ AA⟩
 ·refine AH (z _ (Ai λV C=>Ae 2 AA (zz (.agg [Cd p0.decls,.zc]) (DA jy jb WM AA AA) rfl (Cn 2 WM AA (Bp Uk AA (Ad C (AD λH D=>Ai λW E=>Ae 2 AA (Cc AA (AR AA (Ad E (bs h0 λf c h0=>?_)))))))))));have F:∀{b},JJ f b ⟨41,AL [(1,Aq),(2,DW),(4,Ca)],oF p0 b [jE b]⟩ H:=by
   rintro _ ⟨⟩ s I;refine D _ (AF I (AD λJ h=>Bu 6 (by kernel_rfl) (by kernel_rfl) (by rfl) ?_));iterate 5 refine yq tb rfl ?_
   refine bs h0 λd i h0=>Xp (v':=(.bool d)) AT (hb 76) (O3 i) rfl (.val AA (.own AA AA Cv .nil)) rfl AA (Ao (D8 [(2,DW),(35,.agg [Cd p0.decls,X2 f]),(40,.bool d)] (oF p0 f [⟨1,122,3,[]⟩]) 3 AA ⟨.rfl,.agg ⟨.rfl,.Gs AA,pw⟩,.rfl,pw⟩ Cv AA (Bp Uk AA (AR AA (Ad h ?_)))));cases h0;exact Ap ⟨_,(BH (L:=[(2,Aq),(3,.bool d)]) (st':=[⟨0,65,2,[[Cd p0.decls,X2 f]]⟩]) [1] (.w .nil) ⟨.rfl,.rfl,pw⟩).trans (Dh [(2,Aq),(3,.bool d)] ⟨.rfl,.rfl,pw⟩),Gw (.tmp 2) [Cd p0.decls,X2 f] Uk AA _ AA⟩
  refine AJ (KB (EJ p0) (λu e=>⟨41,AL [(1,.ptr 0 0 0 0),(2,.ptr 1 0 0 0),(4,.ptr 2 0 0 0),(16,ls DH p0.AU),(17,i64 (Sh.len p0.AU)),(18,i64 u)],[Vx p0.decls p0.AU,⟨0,65,2,[[.zc,.zc]]⟩,⟨0,65,2,[[ls Ak p0.decls,ow 3 0 e]]⟩,ro 0 122 3 Cj e]⟩) N 0 [] c (by refine Wk.trans (Jf (id:=2) (st':=[Vx p0.decls p0.AU,⟨0,65,2,[[.zc,.zc]]⟩,⟨0,65,2,[[ls Ak p0.decls,.own 3 0 (List.length ([]:List BX))]]⟩,ro 0 122 3 Cj ([]:List BX)]) (j:=1) rfl AA 122 (size':=3) (by decide) rfl AA AA AA) ?_;exact Ip AA) ?_);intro n u e c;rw[EJ]at c;refine Al AA (AD λK k=>?_);refine Az c ?_ ?_<;>intro M c
  ·refine AH (k _ (AD λO o=>AJ (Ai λP p=>bs c λa q c=>Gz SS q AA (AR AA (Cn 4 WI AA (Bp Zc AA (Ad p (AE AA (Ae 8 AA (zz (.agg [J8 a.params,J8 a.CE,i64 a.result]) (DA eP fK ao AA AA) rfl (CF 5 [BX.mk a.params a.CE a.result] Cj QC AA (bs c λg t c=>Lb [BX.mk a.params a.CE a.result] QC AA (E8 AA AA) t (AR AA (Bp nE AA (Ad o (AE AA (Ae 2 AA ?_)))))))))))))))));exact AB (xi (Sh.w (u+1),g) c (by refine Wk.trans (Eh (L:=[(1,Aq),(2,DW),(4,Ca),(16,ls DH p0.AU),(17,i64 (Sh.len p0.AU)),(18,Kp u)]) (st':=(oF p0 g [jE g,⟨0,50,5,[[J8 a.params,J8 a.CE,i64 a.result,ls C8 a.body.steps,i64 a.body.result]]⟩,ro 0 122 3 Cj [BX.mk a.params a.CE a.result]])) (.raw AA AA (.raw AA AA (.raw AA AA (.pure Bf (.raw AA AA (.pure Bf .nil)))))) (.same AA)) ?_;exact BH [0,1,2,3] (.w (.w (.w (.p .nil)))) (.same AA)))
  ·exact As (F c Au)
end Go.Proofs.YtccficmcdkcpnaaGreat
