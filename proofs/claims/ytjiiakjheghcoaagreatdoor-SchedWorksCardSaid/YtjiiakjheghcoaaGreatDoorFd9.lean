/- A part of the proof: what its functions compute. -/
import Derived.Test.YtjiiakjheghcoaaGreatDoorFd8
set_option linter.unusedVariables false
set_option linter.unusedSimpArgs false
set_option maxRecDepth 100000
set_option maxHeartbeats 64000000
set_option linter.unusedSectionVars false
namespace Go.Proofs.Q0
open Go Go.RowKit Tryz
theorem aAa {m:Mn} {c q lag:Int} {p:Pt} (h:HL m c q lag=some p):p.w=q:=by
 unfold HL at h;split at h
 ·split at h
  ·cases h;rfl
  ·split at h
   ·exact (at_some h).2.1
   ·cases h
 ·cases h
theorem aAl {m:Mn} {p p':Pt} {q:Int} (h:Ga m p q=some p'):p'.w=q:=by
 unfold Ga at h;split at h
 ·exact (at_some h).2.1
 ·cases h
theorem R4 {r u:Rq} (h:CM r=some u):u.i.id=r.i.id∧u.asleep=r.asleep∧u.i.p=r.i.p∧u.slice=r.slice∧u.left=r.left:=by
 unfold CM at h;cases k:(EC r).right with
 | false=>rw [k] at h;cases h
 | true =>
   rw [k] at h;cases h;unfold EC;cases EZ r.left <;> exact ⟨rfl,rfl,rfl,rfl,rfl⟩
theorem Uu {r:Rq} (h:¬ r.In):(CQ r).1.right=false:=by
 have e:CQ r=⟨.zero,by decide⟩:=dif_neg h;rw [e];rfl
theorem Qj {r:Rq} {e:Int} (h:r.right=false):GS r e=2:=by unfold GS;rw [h];rfl
theorem vJ {c:Cs} {id q ns lag:Int} (h:(Bn c id q ns lag).1=0):∃ r:RT,(Bn c id q ns lag).2.A.l=CJ r c.A.l∧BB r=id∧r.1.i.p.w=q∧r.1.slice=ns∧r.1.left=ns∧r.1.asleep=false∧Al c.A.l id=none∧(Bn c id q ns lag).2.A=Gj c.A r∧FT c.A r=0∧Lg c.A q lag=some r.1.i.p:=by
 have h0:=h;unfold Bn at h;split at h
 ·cases h
 ·rename_i c1;split at h
  ·cases h
  ·rename_i c2;split at h
   ·cases h
   ·rename_i c3;cases e:IL c id q ns lag with
    | none=>rw [e] at h;cases h
    | some r =>
      rw [e] at h;have h:(if FT c.A r=0 then ((0:Int),(⟨Gj c.A r,c.run,Ea c.carr (C2 (Gj c.A r) id)⟩:Cs)) else (FT c.A r,c)).1=0:=h;by_cases k:FT c.A r=0
      ·have eJ:Bn c id q ns lag=(0,⟨Gj c.A r,c.run,Ea c.carr (C2 (Gj c.A r) id)⟩):=by
        unfold Bn;rw [if_neg c1,if_neg c2,if_neg c3,e];exact if_pos k
       rw [eJ];have el:(Gj c.A r).l=CJ r c.A.l:=by unfold Gj;rw [if_pos k]
       have WW:Al c.A.l id=none:=by
        cases z:Al c.A.l id with
        | none=>rfl
        | some _=>rw [z] at c2;exact absurd rfl c2
       unfold IL at e;cases e1:Lg c.A q lag with
       | none=>rw [e1] at e;cases e
       | some p =>
         rw [e1] at e;have e:(newR p id ns).map CQ=some r:=e;cases e2:newR p id ns with
         | none=>rw [e2] at e;cases e
         | some u =>
           rw [e2] at e;have e:some (CQ u)=some r:=e;cases e;obtain ⟨a1,a2,a3,a4,a5⟩:=R4 e2;by_cases hin:u.In
           ·have eu:=Ij hin;refine ⟨CQ u,el,?_,?_,?_,?_,?_,WW,rfl,k,?_⟩
            ·unfold BB;rw [eu];exact a1
            ·rw [eu,a3];exact aAa e1
            ·rw [eu];exact a4
            ·rw [eu];exact a5
            ·rw [eu];exact a2
            ·rw [eu,a3]
           ·unfold FT at k;rw [Qj (Uu hin)] at k;cases k
      ·rw [if_neg k] at h;exact absurd h k
theorem leave_ok {c:Cs} {id:Int} (h:(Az c id).1=0):(Az c id).2.A.l=Dn id c.A.l∧∃ a,Al c.A.l id=some a:=by
 unfold Az at h ⊢;by_cases k:(Al c.A.l id).isSome
 ·rw [if_pos k];cases e:Al c.A.l id with
  | none=>rw [e] at k;cases k
  | some a =>
    refine ⟨?_,a,rfl⟩;show (Fl c.A id).l=_;unfold Fl;rw [e];rfl
 ·rw [if_neg k] at h;cases h
theorem oV {c:Cs} {id:Int} (h:(Bk c id).1=0):∃ a,Al c.A.l id=some a∧a.1.asleep=false∧(((CA c id).1=false∧Dm c.A id < 0∧(Bk c id).2.A.l=CJ (HV a true) c.A.l)∨((CA c id).1=true∧¬ Dm c.A id < 0∧(CA c id).2=C2 c.A id∧(Bk c id).2.A.l=Dn id c.A.l)):=by
 have hl:=leave_ok (c:=c) (id:=id);unfold Bk at h ⊢;unfold CA;cases e:Al c.A.l id with
 | none=>rw [e] at h;cases h
 | some a =>
   rw [e] at h;have h:(if a.1.asleep=true then ((6:Int),c) else if Dm c.A id < 0 then (0,⟨Gl c.A id true,c.run,c.carr⟩) else Az c id).1=0:=h;show ∃ a',some a=some a'∧a'.1.asleep=false∧(((if a.1.asleep=true then (false,(0:Int)) else if Dm c.A id < 0 then (false,C2 c.A id) else (true,C2 c.A id)).1=false∧Dm c.A id < 0∧(if a.1.asleep=true then ((6:Int),c) else if Dm c.A id < 0 then (0,⟨Gl c.A id true,c.run,c.carr⟩) else Az c id).2.A.l=CJ (HV a' true) c.A.l)∨((if a.1.asleep=true then (false,(0:Int)) else if Dm c.A id < 0 then (false,C2 c.A id) else (true,C2 c.A id)).1=true∧¬ Dm c.A id < 0∧(if a.1.asleep=true then (false,(0:Int)) else if Dm c.A id < 0 then (false,C2 c.A id) else (true,C2 c.A id)).2=C2 c.A id∧(if a.1.asleep=true then ((6:Int),c) else if Dm c.A id < 0 then (0,⟨Gl c.A id true,c.run,c.carr⟩) else Az c id).2.A.l=Dn id c.A.l));by_cases k:a.1.asleep=true
   ·rw [if_pos k] at h;cases h
   ·rw [if_neg k] at h;rw [if_neg k,if_neg k];refine ⟨a,rfl,by simpa using k,?_⟩;by_cases o:Dm c.A id < 0
    ·rw [if_pos o,if_pos o];refine .inl ⟨rfl,o,?_⟩;show (Gl c.A id true).l=_;unfold Gl;rw [e]
    ·rw [if_neg o] at h;rw [if_neg o,if_neg o];exact .inr ⟨rfl,o,rfl,(hl h).1⟩
theorem vF {c:Cs} {id:Int} (h:(CN c id).1=0):∃ a,Al c.A.l id=some a∧a.1.asleep=true∧(CN c id).2.A.l=CJ (HV a false) c.A.l:=by
 unfold CN at h ⊢;cases e:Al c.A.l id with
 | none=>rw [e] at h;cases h
 | some a =>
   rw [e] at h;have h:(if a.1.asleep=true then ((0:Int),(⟨Gl c.A id false,c.run,c.carr⟩:Cs)) else (6,c)).1=0:=h;show ∃ a',some a=some a'∧a'.1.asleep=true∧(if a.1.asleep=true then ((0:Int),(⟨Gl c.A id false,c.run,c.carr⟩:Cs)) else (6,c)).2.A.l=_;by_cases k:a.1.asleep=true
   ·rw [if_pos k];refine ⟨a,rfl,k,?_⟩;show (Gl c.A id false).l=_;unfold Gl;rw [e]
   ·rw [if_neg k] at h;cases h
theorem lG {A:As} {y:Rq} (h:Dz A (CQ y)=0):(CQ y).1=y∧(GR A (CQ y)).l=CJ (CQ y) A.l:=by
 refine ⟨?_,Rr h⟩;by_cases k:y.In
 ·exact Ij k
 ·unfold Dz at h;rw [Qj (Uu k)] at h;cases h
theorem p9 {c:Cs} {id q:Int} (h:(Bp c id q).1=0):∃ a r,Al c.A.l id=some a∧(Bp c id q).2.A.l=CJ r c.A.l∧BB r=BB a∧r.1.i.p.w=q∧r.1.slice=a.1.slice∧r.1.asleep=a.1.asleep∧r.1.left=a.1.left:=by
 unfold Bp at h ⊢;by_cases c1:Eo q=false
 ·rw [if_pos c1] at h;cases h
 ·rw [if_neg c1] at h ⊢;cases e:Al c.A.l id with
  | none=>rw [e] at h;cases h
  | some a =>
    rw [e] at h;have h:(Mh c id (Jz c.A a.1 q)).1=0:=h;show ∃ a' r,some a=some a'∧(Mh c id (Jz c.A a.1 q)).2.A.l=CJ r c.A.l∧_;cases e2:Jz c.A a.1 q with
    | none=>rw [e2] at h;cases h
    | some y =>
      rw [e2] at h;obtain ⟨k1,k2⟩:=lG (show Dz c.A (CQ y)=0 from h);unfold Jz at e2;cases e3:Ga (mA c.A) a.1.i.p q with
      | none=>rw [e3] at e2;cases e2
      | some p =>
        rw [e3] at e2;have e2:JV a.1 p=some y:=e2;unfold JV at e2;cases e4:a.1.right with
        | false=>rw [e4] at e2;cases e2
        | true =>
          rw [e4] at e2;obtain ⟨a1,a2,a3,a4,a5⟩:=R4 (show CM _=some y from e2);refine ⟨a,CQ y,rfl,k2,?_,?_,?_,?_,?_⟩
          ·unfold BB;rw [k1,a1]
          ·rw [k1,a3];exact aAl e3
          ·rw [k1,a4]
          ·rw [k1,a2]
          ·rw [k1,a5]
theorem o9 {c:Cs} {id ns:Int} (h:(Bq c id ns).1=0):∃ a r,Al c.A.l id=some a∧(Bq c id ns).2.A.l=CJ r c.A.l∧BB r=BB a∧r.1.i.p=a.1.i.p∧r.1.slice=ns∧r.1.asleep=a.1.asleep∧r.1.left=a.1.left:=by
 unfold Bq at h ⊢;by_cases c1:EZ ns=false
 ·rw [if_pos c1] at h;cases h
 ·rw [if_neg c1] at h ⊢;cases e:Al c.A.l id with
  | none=>rw [e] at h;cases h
  | some a =>
    rw [e] at h;have h:Dz c.A (CQ ((Dh a.1 ns).getD .zero))=0:=h;show ∃ a' r,some a=some a'∧(GR c.A (CQ ((Dh a.1 ns).getD .zero))).l=CJ r c.A.l∧_;obtain ⟨k1,k2⟩:=lG h;cases e2:Dh a.1 ns with
    | none =>
      rw [e2] at h;have h:Dz c.A (CQ .zero)=0:=h;unfold Dz at h;rw [Qj Sq] at h;cases h
    | some y =>
      rw [e2] at k1 k2;have k1:(CQ y).1=y:=k1;unfold Dh at e2;cases e4:a.1.right with
      | false=>rw [e4] at e2;cases e2
      | true =>
        rw [e4] at e2;obtain ⟨a1,a2,a3,a4,a5⟩:=R4 (show CM _=some y from e2);refine ⟨a,CQ y,rfl,k2,?_,?_,?_,?_,?_⟩
        ·unfold BB;rw [k1,a1]
        ·rw [k1,a3]
        ·rw [k1,a4]
        ·rw [k1,a2]
        ·rw [k1,a5]
theorem EE.Fy {s:Sy} (h:EE s) {x:Tk} (hx:x∈A6 s.t):∃ k:Nat,x.core=k∧k < s.k.length:=by
 obtain ⟨h1,i,hi⟩:=GP hx;have h2:=(h.row x (aDJ hi)).core h1;have h3:=h.len;exact ⟨x.core.toNat,by omega,by omega⟩
theorem EE.TZ {s:Sy} (h:EE s) {x:Tk} (hx:x∈A6 s.t):CP s.cf.cores x:=by
 obtain ⟨h1,i,hi⟩:=GP hx;exact h.row x (aDJ hi)
def KY (k:Int) (i:Int):Int→List Int:=fun k'=>if k'=k then [i] else []
theorem Qi {s:Ch} {y:Tk} {lag:Int} (h:J5 s.s (KY y.core y.id)) (hy:y∈A6 s.s.t) (iA:y.st=1) (he:(FM s y lag).1=0):C3 (FM s y lag).2.s:=by
 obtain ⟨k,hk,hlt⟩:=h.ok.Fy hy;unfold FM at he ⊢;rw [hk] at he ⊢;unfold DX at he ⊢;generalize hj:Bn (AK s.s k) y.id y.w y.slice lag=J at he ⊢
 have e0:J.1=0:=by
  by_cases e:J.1=0
  ·exact e
  ·rw [if_neg e] at he;exact he
 rw [if_pos e0];have hR:=h.rep.at k;have KJ:Bw J.2:=by rw [← hj];exact I5 hR _ _ _ _
 obtain ⟨r,j1,j2,j3,j4,_,j5,j6,_⟩:=vJ (c:=AK s.s k) (id:=y.id) (q:=y.w) (ns:=y.slice) (lag:=lag) (by rw [hj];exact e0);rw [hj] at j1;have hT:=h.tie k hlt;have eE:KY y.core y.id k=[BB r]:=by unfold KY;rw [hk,if_pos rfl,j2]
 rw [eE] at hT;obtain ⟨s1,hs1⟩:=hR;obtain ⟨s2,hs2⟩:=KJ;have AN:=hs2.o;rw [j1] at AN
 have ht:D5 s.s.t k J.2.A.l (Rp.none.g.map Gn.id) []:=by
  rw [j1];exact fY hT hs1.o AN (by rw [j2];exact j6) hy ⟨j2.symm,hk,by rw [j5];exact iA,j3.symm,j4.symm⟩
 exact (inv_do (E:=fun _=>[]) (t1:=s.s.t) hlt h.ok h.ids h.rep h.inv (fun k' hk' hne=>by
  have:=h.tie k' hk';unfold KY at this;rw [if_neg om] at this;exact this) ⟨s2,hs2⟩ ht s.ev J.1 e0).1
theorem P9 {s:Sy} (h:C3 s) {x y:Tk} {k:Nat} (hk:x.core=k) (hx:x∈A6 s.t) (hid:y.id=x.id) (hc:y.core=x.core) (KW:Ba y=true) (HO:CP s.cf.cores y) {J:Int × Cs} (KJ:Bw J.2) (e0:J.1=0) {a r:RT} (hf:Al (AK s k).A.l x.id=some a) (hl:J.2.A.l=CJ r (AK s k).A.l) (hr:BB r=BB a) (ht:RN k y r) (ev:List Ev) :
 C3 (BJ ⟨BX (Bz s y) k (CU (AK s k) J.1 J.2),ev⟩ k (BO J.1 J.2 .none)).s:=by
 obtain ⟨k',hk',hlt⟩:=h.ok.Fy hx;obtain rfl:k=k':=by omega
 obtain ⟨s1,hs1⟩:=h.rep.at k;have ho:=KJ;obtain ⟨s2,hs2⟩:=ho;have AN:=hs2.o;rw [hl] at AN;refine (inv_do (E:=fun _=>[]) (t1:=ES s.t y) (r1 := .none) hlt (h.ok.CM HO) (h.ids.sets y) h.rep h.inv (fun k' hk2 hne=>?_) KJ ?_ ev J.1 e0).1
 ·exact (h.tie k' hk2).other (k:=k) h.ids hx hid KW (.inl om) (.inl om)
 ·rw [hl];exact mJ (h.tie k hlt) h.ids hs1.o AN (Bu hf).1 hr ht KW
theorem OO {s:Ch} (h:C3 s.s) {x:Tk} (hx:x∈A6 s.s.t) (hc:BR x=true):J5 (B0 s x).2.s (KY x.core x.id)∧x∈A6 (B0 s x).2.s.t:=by
 obtain ⟨k,hk,hlt⟩:=h.ok.Fy hx;unfold B0;rw [hk]
 obtain ⟨a,ha,hai⟩:∃ a∈(AK s.s k).A.l,BB a=x.id:=by
  rcases (h.tie k hlt).bwd x hx hc hk AA with q | q
  ·exact q
  ·cases q
 obtain ⟨s1,hs1⟩:=h.rep.at k;have hf:Al (AK s.s k).A.l x.id=some a:=by rw [← hai];exact Cl hs1.o ha
 have e0:(Az (AK s.s k) x.id).1=0:=by unfold Az;rw [hf];rfl
 obtain ⟨l1,_⟩:=leave_ok e0;have KJ:=FI (h.rep.at k) x.id
 have ht:D5 s.s.t k (Az (AK s.s k) x.id).2.A.l (Rp.none.g.map Gn.id) (KY k x.id k):=by
  rw [l1];have:KY k x.id k=[x.id]:=if_pos rfl;rw [this];exact Vn (h.tie k hlt)
 obtain ⟨i1,i2,_,_⟩:=inv_do (E:=KY k x.id) (t1:=s.s.t) (r1 := .none) hlt h.ok h.ids h.rep h.inv (fun k' hk' hne=>by
  have:=h.tie k' hk';unfold KY;rw [if_neg om];exact this) KJ ht s.ev _ e0
 refine ⟨i1,(i2 x ?_).2 hx⟩
 have hg:(BO (Az (AK s.s k) x.id).1 (Az (AK s.s k) x.id).2 .none).g=Da (Az (AK s.s k) x.id).2:=by
  unfold BO;rw [if_pos e0];rfl
 rw [hg];intro hm;obtain ⟨g,hg,Yr⟩:=List.mem_map.1 hm;obtain ⟨s3,hs3⟩:=KJ;obtain ⟨_,_,h3,_⟩:=hs3.L4.gone g hg;obtain ⟨b,hb,jL⟩:=List.mem_map.1 h3;rw [l1] at hb;exact (del_sub b hb).2 (by rw [jL,Yr])
theorem task_live {s:Sy} (h:B7 0 s.t) {id:Int} (he:Df (BK s.t id)=0):Ay s.t id∈A6 s.t∧(Ay s.t id).id=id:=by
 cases e:BK s.t id with
 | none=>rw [e] at he;cases he
 | some i =>
   obtain ⟨x,h1,h2,h3⟩:=lQ h e;obtain ⟨_,_,_,h4⟩:=GG h h1;rw [h2] at h4;rw [h4];exact ⟨h1,h2⟩
theorem Qk {t:List Tk} (h:B7 0 t) {x:Tk} (hx:x∈A6 t):Df (BK t x.id)=0:=by obtain ⟨i,h1,_⟩:=GG h hx;rw [h1];rfl
theorem inv_exit {s:Ch} (h:C3 s.s) {x:Tk} (hx:x∈A6 s.s.t):C3 (FQ s x x.id).2.s∧(FQ s x x.id).1=0:=by
 have fin:∀ (u:Sy),(∃ E,J5 u E∧∀ k:Nat,∀ i∈E k,i=x.id)→x∈A6 u.t→(∀ k:Nat,x.core=k→BR x=true→k < u.k.length→∀ a∈(AK u k).A.l,BB a≠x.id)→C3 { u with t:=FJ u.t x.id }:=by
  rintro u ⟨E,hE,UM⟩ hxu hno;have L:=aL hE.ids hxu;refine ⟨hE.ok.rows (V6 hE.ok.row x.id) (UJ _ _),hE.ids.drop _,hE.rep,hE.inv,fun k hk=>⟨fun a ha=>?_,fun z hz hc Ox _=>?_,fun i hi=>by cases hi⟩⟩
  ·obtain ⟨y,hy,ht⟩:=(hE.tie k hk).fwd a ha;refine ⟨y,(L y).2 ⟨hy,fun e=>?_⟩,ht⟩;have:=Jo hE.ids hy hxu e;subst this;exact hno k ht.2.1 ht.comp hk a ha ht.1.symm
  ·obtain ⟨hz,hn⟩:=(L z).1 hz;exact (hE.tie k hk).bwd z hz hc Ox (fun m=>hn (UM k _ m))
 unfold FQ;by_cases hc:BR x=true
 ·rw [if_pos hc];obtain ⟨i1,i2⟩:=OO h hx hc;refine ⟨fin _ ⟨_,i1,fun k i hi=>?_⟩ i2 fun k hk _ hlt a ha e=>?_,Qk i1.ids i2⟩
  ·unfold KY at hi;split at hi
   ·simpa using hi
   ·cases hi
  ·obtain ⟨k',hk',hlt'⟩:=h.ok.Fy hx;obtain rfl:k=k':=by omega
   have e0:(Az (AK s.s k) x.id).1=0:=by
    obtain ⟨b,hb,jL⟩:∃ a∈(AK s.s k).A.l,BB a=x.id:=by
     rcases (h.tie k hlt').bwd x hx hc hk AA with q | q
     ·exact q
     ·cases q
    obtain ⟨s1,hs1⟩:=h.rep.at k;unfold Az;rw [← jL,Cl hs1.o hb];rfl
   have JY:AK (B0 s x).2.s k=DN (Az (AK s.s k) x.id).2:=by
    unfold B0;rw [hk];show AK (BJ _ _ _).s k=_;rw [MV _ _ _ (h.ok.Tp _ _)];show AK (BX s.s k _) k=_;rw [O3 hlt',if_pos rfl];exact if_pos e0
   rw [JY] at ha;obtain ⟨s3,hs3⟩:=FI (h.rep.at k) x.id;have:=Uv hs3 a ha;rw [(leave_ok e0).1] at this;exact (del_sub a this).2 e
 ·rw [if_neg hc];exact ⟨fin s.s ⟨_,h,fun k i hi=>by cases hi⟩ hx fun k hk Zl=>absurd Zl hc,Qk h.ids hx⟩
theorem Mt (x:Int):Fb (IntKind.u32.wrap x):=by rw [wrap_u32];unfold Fb;omega
theorem tied_of {s:Sy} {E:Int→List Int} (h:J5 s E) {x:Tk} (hx:x∈A6 s.t) {k:Nat} (hlt:k < s.k.length) {a:RT} (ha:a∈(AK s k).A.l) (e:BB a=x.id):RN k x a:=by
 obtain ⟨u,hu,ht⟩:=(h.tie k hlt).fwd a ha;have:=Jo h.ids hu hx (by rw [ht.1,e]);subst this;exact ht
theorem no_req {s:Sy} {E:Int→List Int} (h:J5 s E) {x:Tk} (hx:x∈A6 s.t) (hc:BR x=false):∀ k:Nat,k < s.k.length→∀ a∈(AK s k).A.l,BB a≠x.id:=fun k hlt a ha e=>by
 have:=(tied_of h hx hlt ha e).comp;rw [hc] at this;cases this
theorem Rc {s:Sy} {E:Int→List Int} (h:J5 s E) {x y:Tk} (hx:x∈A6 s.t) (hid:y.id=x.id) (KW:Ba y=true) (HO:CP s.cf.cores y) (hE:∀ k:Nat,∀ i∈E k,i=x.id) (hno:∀ k:Nat,k < s.k.length→∀ a∈(AK s k).A.l,BB a≠x.id):J5 (Bz s y) (KY y.core y.id)∧y∈A6 (Bz s y).t:=by
 have L:=I4 h.ids hx hid KW;refine ⟨⟨h.ok.CM HO,h.ids.sets y,h.rep,h.inv,fun k hk=>⟨fun a ha=>?_,fun z hz hc Ox he=>?_,fun i hi=>by cases hi⟩⟩,(L y).2 (.inl rfl)⟩
 ·obtain ⟨u,hu,ht⟩:=(h.tie k hk).fwd a ha;exact ⟨u,(L u).2 (.inr ⟨hu,fun e=>hno k hk a ha (by rw [← ht.1,e,hid])⟩),ht⟩
 ·rcases (L z).1 hz with rfl | ⟨hz,hn⟩
  ·unfold KY at he;rw [if_pos Ox.symm] at he;exact absurd AA he
  ·exact (h.tie k hk).bwd z hz hc Ox (fun m=>hn (by rw [hE k _ m,hid]))
theorem Vh {s:Sy} {k i:Int} (h:J5 s (KY k i)) {y:Tk} (hy:y∈A6 s.t) (e:y.id=i) (hc:BR y=false):C3 s :=
 ⟨h.ok,h.ids,h.rep,h.inv,fun k' hk=>⟨(h.tie k' hk).fwd,fun z hz Q1 Ox _=>(h.tie k' hk).bwd z hz Q1 Ox (fun m=>by
  unfold KY at m;split at m
  ·have:z.id=i:=by simpa using m
   have:=Jo h.ids hz hy (this.trans e.symm);subst this;rw [hc] at Q1;cases Q1
  ·cases m),(h.tie k' hk).gone⟩⟩
theorem inv_plain {s:Sy} (h:C3 s) {x y:Tk} (hx:x∈A6 s.t) (hid:y.id=x.id) (KW:Ba y=true) (HO:CP s.cf.cores y) (hc:BR x=false) (qJ:BR y=false):C3 (Bz s y)∧y∈A6 (Bz s y).t:=by
 obtain ⟨a,b⟩:=Rc h hx hid KW HO (fun k i hi=>by cases hi) (no_req h hx hc);exact ⟨Vh a b rfl qJ,b⟩
theorem leave_no {s:Ch} (h:C3 s.s) {x:Tk} (hx:x∈A6 s.s.t) (hc:BR x=true):∀ k:Nat,k < (B0 s x).2.s.k.length→∀ a∈(AK (B0 s x).2.s k).A.l,BB a≠x.id:=fun k hlt a ha e=>by
 obtain ⟨i1,i2⟩:=OO h hx hc;have ht:=tied_of i1 i2 hlt ha e;obtain ⟨k',hk',hlt'⟩:=h.ok.Fy hx;obtain rfl:k=k':=by have:=ht.2.1;omega
 have e0:(Az (AK s.s k) x.id).1=0:=by
  obtain ⟨b,hb,jL⟩:∃ a∈(AK s.s k).A.l,BB a=x.id:=by
   rcases (h.tie k hlt').bwd x hx hc hk' AA with q | q
   ·exact q
   ·cases q
  obtain ⟨s1,hs1⟩:=h.rep.at k;unfold Az;rw [← jL,Cl hs1.o hb];rfl
 have JY:AK (B0 s x).2.s k=DN (Az (AK s.s k) x.id).2:=by
  unfold B0;rw [hk'];show AK (BJ _ _ _).s k=_;rw [MV _ _ _ (h.ok.Tp _ _)];show AK (BX s.s k _) k=_;rw [O3 hlt',if_pos rfl];exact if_pos e0
 rw [JY] at ha;obtain ⟨s3,hs3⟩:=FI (h.rep.at k) x.id;have:=Uv hs3 a ha;rw [(leave_ok e0).1] at this;exact (del_sub a this).2 e
theorem ZK {s:Sy} {E:Int→List Int} (h:J5 s E) {x:Tk} (hx:x∈A6 s.t):x.st=1∨x.st=2∨x.st=3:=by
 have:=live_right h.ids hx;unfold Ba at this;rw [aDB,decide_eq_true_iff,decide_eq_true_iff] at this;omega
theorem UW (s:Ch) (x:Tk) (id:Int):(ED s x id).core=x.core:=by
 show (if (CA (AK s.s x.core) id).1=true then { x with st:=3,lag:=GK s.s.cf (CA (AK s.s x.core) id).2 x.slice } else { x with st:=2 }:Tk).core=_;split <;> rfl
theorem fP (s:Ch) (x:Tk) (id:Int):(ED s x id).id=x.id:=by
 show (if (CA (AK s.s x.core) id).1=true then { x with st:=3,lag:=GK s.s.cf (CA (AK s.s x.core) id).2 x.slice } else { x with st:=2 }:Tk).id=_;split <;> rfl
theorem jK (s:Ch) (x:Tk) (id:Int):(ED s x id).slice=x.slice:=by
 show (if (CA (AK s.s x.core) id).1=true then { x with st:=3,lag:=GK s.s.cf (CA (AK s.s x.core) id).2 x.slice } else { x with st:=2 }:Tk).slice=_;split <;> rfl
theorem mE {s:Ch} (h:C3 s.s) {x:Tk} (hx:x∈A6 s.s.t) (he:(Fz s x x.id).1=0):C3 (Fz s x x.id).2.s:=by
 unfold Fz at he ⊢;by_cases c1:x.st≠1
 ·rw [if_pos c1] at he;cases he
 rw [if_neg c1] at he ⊢;have iA:x.st=1:=by omega
 obtain ⟨k,hk,hlt⟩:=h.ok.Fy hx;unfold DY at he ⊢;have iR:(ED s x x.id).core=x.core:=UW _ _ _;have ZF:(ED s x x.id).id=x.id:=fP _ _ _;have Wa:ED s x x.id=if (CA (AK s.s k) x.id).1=true then { x with st:=3,lag:=GK s.s.cf (CA (AK s.s k) x.id).2 x.slice } else { x with st:=2 }:=by unfold ED;rw [hk]
 rw [iR,hk] at he ⊢;generalize ED s x x.id=y at *;by_cases e0:(Bk (AK s.s k) x.id).1=0
 ·rw [if_pos e0];obtain ⟨a,hf,OD,hcs⟩:=oV e0;have KJ:=Ky (h.rep.at k) x.id;obtain ⟨ha,hai⟩:=Bu hf;have ht:=tied_of h hx hlt ha hai;have hro:=h.ok.TZ hx;rcases hcs with ⟨q1,_,q2⟩ | ⟨q1,_,_,q2⟩
  ·rw [q1] at Wa;have Wa:y={ x with st:=2 }:=Wa;subst Wa;exact P9 h hk hx (y:={ x with st:=2 }) rfl rfl rfl (hro.st om om) KJ e0 hf q2 rfl ⟨ht.1,ht.2.1,rfl,ht.2.2.2.1,ht.2.2.2.2⟩ s.ev
  ·rw [q1,if_pos rfl] at Wa
   have HO:CP s.s.cf.cores y:=by
    rw [Wa];exact ⟨hro.1,(by decide:(0:Int)≤3∧(3:Int) < 256),hro.2.2.1,hro.2.2.2.1,hro.2.2.2.2.1,LW _ _ _,fun _=>hro.core om⟩
   have hys:y.st=3:=by rw [Wa]
   have KW:Ba y=true:=by unfold Ba;rw [hys];rfl
   have qJ:BR y=false:=by unfold BR;rw [hys];rfl
   refine (inv_do (E:=fun _=>[]) (t1:=ES s.s.t y) (r1 := .none) hlt (h.ok.CM HO) (h.ids.sets y) h.rep h.inv (fun k' hk2 hne=>?_) KJ ?_ s.ev _ e0).1
   ·exact (h.tie k' hk2).other (k:=k) h.ids hx ZF KW (.inl om) (.inr qJ)
   ·rw [q2];have L:=I4 h.ids hx ZF KW;have hd:=Vn (id:=x.id) (h.tie k hlt);refine ⟨fun b hb=>?_,fun z hz Q1 Ox _=>?_,fun i hi=>by cases hi⟩
    ·obtain ⟨u,hu,hut⟩:=hd.fwd b hb;exact ⟨u,(L u).2 (.inr ⟨hu,fun e=>(del_sub b hb).2 (by rw [← hut.1,e,ZF])⟩),hut⟩
    ·rcases (L z).1 hz with rfl | ⟨hz,hn⟩
     ·rw [qJ] at Q1;cases Q1
     ·exact hd.bwd z hz Q1 Ox (by rw [← ZF];simpa using hn)
 ·rw [if_neg e0] at he;exact absurd he e0
theorem qB {s:Ch} (h:C3 s.s) {x:Tk} (hx:x∈A6 s.s.t) (he:(EX s x x.id).1=0):C3 (EX s x x.id).2.s:=by
 have hro:=h.ok.TZ hx;have hst:=ZK h hx;obtain ⟨k,hk,hlt⟩:=h.ok.Fy hx;have HO:CP s.s.cf.cores { x with st:=1 }:=hro.st om om;unfold EX at he ⊢;by_cases c1:x.st=1
 ·rw [if_pos c1] at he;cases he
 rw [if_neg c1] at he ⊢;by_cases c3:x.st=3
 ·rw [if_pos c3] at he ⊢;obtain ⟨i1,i2⟩:=Rc h hx (y:={ x with st:=1 }) rfl rfl HO (fun k i hi=>by cases hi) (no_req h hx (by unfold BR;rw [c3];rfl));exact Qi (s:=⟨Bz s.s { x with st:=1 },s.ev⟩) i1 i2 rfl he
 ·rw [if_neg c3] at he ⊢;unfold DY at he ⊢;have e:({ x with st:=1 }:Tk).core=x.core:=rfl;rw [e,hk] at he ⊢;by_cases e0:(CN (AK s.s k) x.id).1=0
  ·rw [if_pos e0];obtain ⟨a,hf,OD,q2⟩:=vF e0;obtain ⟨ha,hai⟩:=Bu hf;have ht:=tied_of h hx hlt ha hai;exact P9 h hk hx (y:={ x with st:=1,core:=(k:Int) }) rfl hk.symm rfl (by rw [← hk];exact HO) (MN (h.rep.at k) x.id) e0 hf q2 rfl ⟨ht.1,rfl,rfl,ht.2.2.2.1,ht.2.2.2.2⟩ s.ev
  ·rw [if_neg e0] at he;exact absurd he e0
theorem Zq {s:Ch} (h:C3 s.s) {x:Tk} (hx:x∈A6 s.s.t) {w:Int} (he:(DM s x x.id w).1=0):C3 (DM s x x.id w).2.s:=by
 have hro:=h.ok.TZ hx;obtain ⟨k,hk,hlt⟩:=h.ok.Fy hx;have hw:Fb (IntKind.u32.wrap w):=Mt _;have HO:CP s.s.cf.cores { x with w:=IntKind.u32.wrap w }:=⟨hro.1,hro.2.1,hro.2.2.1,hw,hro.2.2.2.2.1,hro.2.2.2.2.2.1,hro.2.2.2.2.2.2⟩;have KW:Ba { x with w:=IntKind.u32.wrap w }=true:=(live_right h.ids hx:Ba x=true);unfold DM at he ⊢;by_cases c1:BC w 1048576≠0
 ·rw [if_pos c1] at he;exact absurd he c1
 rw [if_neg c1] at he ⊢;cases hc:BR x with
 | false =>
   rw [if_pos rfl];exact (inv_plain h hx (y:={ x with w:=IntKind.u32.wrap w }) rfl KW HO hc hc).1
 | true =>
   rw [hc,if_neg AA] at he;rw [if_neg AA];unfold DX at he ⊢;rw [hk] at he ⊢;by_cases e0:(Bp (AK s.s k) x.id (IntKind.u32.wrap w)).1=0
   ·rw [if_pos e0];obtain ⟨a,r,hf,q2,q3,q4,q5,q6,_⟩:=p9 e0;obtain ⟨ha,hai⟩:=Bu hf;have ht:=tied_of h hx hlt ha hai;exact P9 h hk hx (y:={ x with w:=IntKind.u32.wrap w,core:=(k:Int) }) rfl hk.symm KW (by rw [← hk];exact HO) (Kk (h.rep.at k) x.id _) e0 hf q2 q3 ⟨by rw [q3];exact ht.1,rfl,by rw [q6];exact ht.2.2.1,q4.symm,by rw [q5];exact ht.2.2.2.2⟩ s.ev
   ·rw [if_neg e0] at he;exact absurd he e0
theorem iU {s:Ch} (h:C3 s.s) {x:Tk} (hx:x∈A6 s.s.t) {ns:Int} (Dd:BY ns) (he:(Dp s x x.id ns).1=0):C3 (Dp s x x.id ns).2.s:=by
 have hro:=h.ok.TZ hx;obtain ⟨k,hk,hlt⟩:=h.ok.Fy hx;have HO:CP s.s.cf.cores { x with slice:=ns }:=⟨hro.1,hro.2.1,hro.2.2.1,hro.2.2.2.1,Dd,hro.2.2.2.2.2.1,hro.2.2.2.2.2.2⟩;have KW:Ba { x with slice:=ns }=true:=(live_right h.ids hx:Ba x=true);unfold Dp at he ⊢;by_cases c1:BC ns (D7 s.s.cf.slice)≠0
 ·rw [if_pos c1] at he;exact absurd he c1
 rw [if_neg c1] at he ⊢;cases hc:BR x with
 | false =>
   rw [if_pos rfl];exact (inv_plain h hx (y:={ x with slice:=ns }) rfl KW HO hc hc).1
 | true =>
   rw [hc,if_neg AA] at he;rw [if_neg AA];unfold DX at he ⊢;rw [hk] at he ⊢;by_cases e0:(Bq (AK s.s k) x.id ns).1=0
   ·rw [if_pos e0];obtain ⟨a,r,hf,q2,q3,q4,q5,q6,_⟩:=o9 e0;obtain ⟨ha,hai⟩:=Bu hf;have ht:=tied_of h hx hlt ha hai;exact P9 h hk hx (y:={ x with slice:=ns,core:=(k:Int) }) rfl hk.symm KW (by rw [← hk];exact HO) (Kx (h.rep.at k) x.id ns) e0 hf q2 q3 ⟨by rw [q3];exact ht.1,rfl,by rw [q6];exact ht.2.2.1,by rw [q4];exact ht.2.2.2.1,q5.symm⟩ s.ev
   ·rw [if_neg e0] at he;exact absurd he e0
theorem leave_cf (s:Ch) (h:EE s.s) (x:Tk):(B0 s x).2.s.cf=s.s.cf:=(ok_leave h x).2
theorem leave_in (s:Ch) (x:Tk):In64 (B0 s x).1:=LW _ _ _
def E6 (u:Ch) (x:Tk) (core lag:Int):Int × Ch:=if (Dv x core lag).st=1 then FM ⟨Bz u.s (Dv x core lag),u.ev⟩ (Dv x core lag) (Dv x core lag).lag else (0,⟨Bz u.s (Dv x core lag),u.ev⟩)
theorem Gd {s:Ch} {x:Tk} {core:Int} (c1:CS s.s.cf core≠0∨core=x.core):C5 s x core=(CS s.s.cf core,s):=if_pos c1
theorem Hh {s:Ch} {x:Tk} {core:Int} (c1:¬ (CS s.s.cf core≠0∨core=x.core)):C5 s x core=if BR x=true then E6 (B0 s x).2 x core (B0 s x).1 else E6 s x core x.lag:=by
 unfold C5;rw [if_neg c1];show E6 (if BR x=true then B0 s x else (x.lag,s)).2 x core (if BR x=true then B0 s x else (x.lag,s)).1=_;split <;> rfl
theorem Kv {s:Ch} {core w ns:Int} (c:Cx s.s core w ns≠0):Bc s core w ns=(Cx s.s core w ns,0,s):=if_pos c
theorem Km {s:Ch} {core w ns:Int} (c1:¬ Cx s.s core w ns≠0) (c:Ef s.s.t (B8 core w ns)≠0):Bc s core w ns=(Ef s.s.t (B8 core w ns),0,s):=by unfold Bc;rw [if_neg c1,if_pos c]
def KX (s:Ch) (core w ns:Int):Int × Ch:=FM ⟨{ s.s with t:=D4 s.s.t (B8 core w ns) },s.ev⟩ { B8 core w ns with id:=Eu s.s.t (B8 core w ns) } 0
theorem Nq {s:Ch} {core w ns:Int} (c1:¬ Cx s.s core w ns≠0) (c:¬ Ef s.s.t (B8 core w ns)≠0):Bc s core w ns=if (KX s core w ns).1=0 then (0,Eu s.s.t (B8 core w ns),(KX s core w ns).2) else ((KX s core w ns).1,0,s):=by unfold Bc;rw [if_neg c1,if_neg c];rfl
theorem YQ {s:Ch} (h:C3 s.s) {x:Tk} (hx:x∈A6 s.s.t) {core:Int} (Fg:In64 core) (he:(C5 s x core).1=0):C3 (C5 s x core).2.s:=by
 have hro:=h.ok.TZ hx;have hst:=ZK h hx;by_cases c1:CS s.s.cf core≠0∨core=x.core
 ·rw [Gd c1];exact h
 rw [Hh c1] at he ⊢
 have hc0:0≤core∧core < s.s.cf.cores:=by
  have:CS s.s.cf core=0:=by
   rcases Classical.em (CS s.s.cf core=0) with q | q
   ·exact q
   ·exact absurd (.inl q) c1
  unfold CS at this;split at this
  ·cases this
  ·omega
 have fin:∀ (u:Ch) (lag:Int),In64 lag→(∃ E,J5 u.s E∧∀ k:Nat,∀ i∈E k,i=x.id)→u.s.cf=s.s.cf→x∈A6 u.s.t→(∀ k:Nat,k < u.s.k.length→∀ a∈(AK u.s k).A.l,BB a≠x.id) →
  (E6 u x core lag).1=0→C3 (E6 u x core lag).2.s:=by
  rintro u lag Hu ⟨E,hE,UM⟩ XZ hxu hno hq;unfold E6 at hq ⊢;have zZ:(Dv x core lag).st=if x.st=2 then 3 else x.st:=rfl
  have HO:CP u.s.cf.cores (Dv x core lag):=by
   rw [XZ];refine ⟨hro.1,?_,Fg,hro.2.2.2.1,hro.2.2.2.2.1,Hu,fun _=>hc0⟩;rw [zZ];split <;> omega
  have KW:Ba (Dv x core lag)=true:=by
   unfold Ba;rw [zZ,aDB,decide_eq_true_iff,decide_eq_true_iff];split <;> omega
  obtain ⟨i1,i2⟩:=Rc hE hxu (y:=Dv x core lag) rfl KW HO UM hno;by_cases c2:(Dv x core lag).st=1
  ·rw [if_pos c2] at hq ⊢;exact Qi (s:=⟨Bz u.s (Dv x core lag),u.ev⟩) i1 i2 c2 hq
  ·rw [if_neg c2];refine Vh i1 i2 rfl ?_;cases jH:BR (Dv x core lag) with
   | false=>rfl
   | true =>
     rw [LS] at jH;rw [zZ] at jH c2;split at jH <;> split at c2 <;> omega
 cases hc:BR x with
 | true =>
   rw [hc,if_pos rfl] at he;rw [if_pos rfl];obtain ⟨i1,i2⟩:=OO h hx hc;refine fin (B0 s x).2 (B0 s x).1 (leave_in s x) ⟨_,i1,fun k i hi=>?_⟩ (leave_cf s h.ok x) i2 (leave_no h hx hc) he;unfold KY at hi;split at hi
   ·simpa using hi
   ·cases hi
 | false =>
   rw [hc,if_neg AA] at he;rw [if_neg AA];exact fin s x.lag hro.2.2.2.2.2.1 ⟨_,h,fun k i hi=>by cases hi⟩ rfl hx (no_req h hx hc) he
theorem lD {s:Ch} (h:C3 s.s) {core w ns:Int} (Fg:In64 core) (Dd:BY ns) (he:(Bc s core w ns).1=0):C3 (Bc s core w ns).2.2.s:=by
 by_cases c1:Cx s.s core w ns≠0
 ·rw [Kv c1] at he;exact absurd he c1
 by_cases c2:Ef s.s.t (B8 core w ns)≠0
 ·rw [Km c1 c2] at he;exact absurd he c2
 rw [Nq c1 c2] at he ⊢
 have WW:Ef s.s.t (B8 core w ns)=0:=by
  rcases Classical.em (Ef s.s.t (B8 core w ns)=0) with q | q
  ·exact q
  ·exact absurd q c2
 have hc0:0≤core∧core < s.s.cf.cores:=by
  have q:Cx s.s core w ns=0:=by
   rcases Classical.em (Cx s.s core w ns=0) with q | q
   ·exact q
   ·exact absurd q c1
  unfold Cx F8 CS at q;by_cases k:core < 0∨core≥s.s.cf.cores
  ·rw [if_pos k] at q;cases q
  ·omega
 have HO:CP s.s.cf.cores (B8 core w ns):=⟨(by decide:In64 0),(by decide:(0:Int)≤1∧(1:Int) < 256),Fg,Mt _,Dd,(by decide:In64 0),fun _=>hc0⟩;have L:=fun z=>(Ue h.ids WW z).1;obtain ⟨_,hno,KP,hn2⟩:=Ue h.ids WW (B8 core w ns);have eJ:KX s core w ns=FM ⟨{ s.s with t:=D4 s.s.t (B8 core w ns) },s.ev⟩ { B8 core w ns with id:=Eu s.s.t (B8 core w ns) } 0:=rfl;generalize hn:Eu s.s.t (B8 core w ns)=n at *;have UX:=h.ids.add (B8 core w ns);have aCE:EE { s.s with t:=D4 s.s.t (B8 core w ns) }:=h.ok.rows (ZM h.ok.row h.ok.tl HO) (VS _ _);generalize KX s core w ns=J at *;have hj:FM ⟨{ s.s with t:=D4 s.s.t (B8 core w ns) },s.ev⟩ { B8 core w ns with id:=n } 0=J:=eJ.symm
 have e0:J.1=0:=by
  by_cases e:J.1=0
  ·exact e
  ·rw [if_neg e] at he;exact he
 rw [if_pos e0];have hi:J5 { s.s with t:=D4 s.s.t (B8 core w ns) } (KY core n):=⟨aCE,UX,h.rep,h.inv,fun k hk=>⟨fun a ha=>?_,fun z hz hc Ox yV=>?_,fun i hi=>by cases hi⟩⟩
 ·have:=Qi (s:=⟨{ s.s with t:=D4 s.s.t (B8 core w ns) },s.ev⟩) (y:={ B8 core w ns with id:=n }) (lag:=0) hi ((L _).2 (.inl rfl)) rfl (by rw [hj];exact e0);rw [hj] at this;exact this
 ·obtain ⟨u,hu,ht⟩:=(h.tie k hk).fwd a ha;exact ⟨u,(L u).2 (.inr hu),ht⟩
 ·rcases (L z).1 hz with rfl | hz
  ·have aBv:(k:Int)=core:=Ox.symm;unfold KY at yV;rw [if_pos aBv] at yV;exact absurd (List.mem_singleton.2 rfl) yV
  ·exact (h.tie k hk).bwd z hz hc Ox AA
theorem UC {ns:Int} (Dd:0≤ns):∀ (n k:Nat) (s:Ch),C3 s.s→k+n=s.s.k.length→(Ca n k s ns).1=0→C3 (Ca n k s ns).2.s
 | 0,k,s,h,_,_=>h
 | n+1,k,s,h,hk,he=>by
   unfold Ca at he ⊢;by_cases e0:(A7 (AK s.s k) ns).1=0
   ·have M7:(A7 (AK s.s k) ns).fst=0:=e0;rw [if_pos M7] at he;rw [if_pos M7];obtain ⟨t1,t2⟩:=cF (h.rep.at k) (h.inv (AK s.s k) (KN (show k < s.s.k.length by omega))) (ns:=ns) (h.tie k om);have i1:=(inv_do (E:=fun _=>[]) (s:=s.s) (t1:=s.s.t) (k:=k) (show k < s.s.k.length by omega) h.ok h.ids h.rep h.inv (fun k' hk' _=>h.tie k' hk') t2 t1 s.ev _ e0).1;refine UC Dd n (k+1) _ i1 ?_ he;rw [(ok_absorb (s:=⟨BX s.s k _,s.ev⟩) (h.ok.Tp _ _) _ _).2.2];show k+1+n=(s.s.k.set _ _).length;rw [aDN];omega
   ·have M7:¬ (A7 (AK s.s k) ns).fst=0:=e0;rw [if_neg M7] at he;exact absurd he e0
theorem Jx {s:Ch} (h:C3 s.s) (id:Int) (f:Ch→Tk→Int × Ch) (hf:∀ x∈A6 s.s.t,x.id=id→(f s x).1=0→C3 (f s x).2.s) (he:(By s id f).1=0):C3 (By s id f).2.s:=by
 unfold By at he ⊢;by_cases c:Df (BK s.s.t id)≠0
 ·rw [if_pos c] at he;exact absurd he c
 ·rw [if_neg c] at he ⊢
  obtain ⟨h1,h2⟩:=task_live h.ids (id:=id) (by
   rcases Classical.em (Df (BK s.s.t id)=0) with q | q
   ·exact q
   ·exact absurd q c)
  exact hf _ h1 h2 he
theorem uA {s:Sy} (h:C3 s) {a:CK} (ha:a.In) (he:(CO s a).1=0):C3 (CO s a).2.s:=by
 unfold CO at he ⊢;by_cases c1:a.d % 12 < 2
 ·rw [if_pos c1] at he ⊢;exact lD (s:=⟨s,[]⟩) h ha.2.2.1 ha.2.2.2.2 he
 rw [if_neg c1] at he ⊢;by_cases c2:a.d % 12=2
 ·rw [if_pos c2] at he ⊢;exact Jx (s:=⟨s,[]⟩) h a.id _ (fun x hx e k=>by rw [← e];exact (inv_exit (s:=⟨s,[]⟩) h hx).1) he
 rw [if_neg c2] at he ⊢;by_cases c3:a.d % 12 < 5
 ·rw [if_pos c3] at he ⊢;exact Jx (s:=⟨s,[]⟩) h a.id _ (fun x hx e k=>by rw [← e] at k ⊢;exact mE (s:=⟨s,[]⟩) h hx k) he
 rw [if_neg c3] at he ⊢;by_cases c4:a.d % 12 < 7
 ·rw [if_pos c4] at he ⊢;exact Jx (s:=⟨s,[]⟩) h a.id _ (fun x hx e k=>by rw [← e] at k ⊢;exact qB (s:=⟨s,[]⟩) h hx k) he
 rw [if_neg c4] at he ⊢;by_cases c5:a.d % 12=7
 ·rw [if_pos c5] at he ⊢;exact Jx (s:=⟨s,[]⟩) h a.id _ (fun x hx e k=>by rw [← e] at k ⊢;exact Zq (s:=⟨s,[]⟩) h hx k) he
 rw [if_neg c5] at he ⊢;by_cases c6:a.d % 12=8
 ·rw [if_pos c6] at he ⊢;exact Jx (s:=⟨s,[]⟩) h a.id _ (fun x hx e k=>by rw [← e] at k ⊢;exact iU (s:=⟨s,[]⟩) h hx ha.2.2.2.2 k) he
 rw [if_neg c6] at he ⊢;by_cases c7:a.d % 12=9
 ·rw [if_pos c7] at he ⊢;exact Jx (s:=⟨s,[]⟩) h a.id _ (fun x hx e k=>YQ (s:=⟨s,[]⟩) h hx ha.2.2.1 k) he
 rw [if_neg c7] at he ⊢;unfold EI at he ⊢;by_cases c8:BC a.ns (D7 s.cf.tick)≠0
 ·have x5:BC a.ns (D7 (Ch.s ⟨s,[]⟩).cf.tick)≠0:=c8;rw [if_pos x5] at he;exact absurd he c8
 ·have x5:¬ BC a.ns (D7 (Ch.s ⟨s,[]⟩).cf.tick)≠0:=c8;rw [if_neg x5] at he ⊢;exact UC ha.2.2.2.2.1 _ 0 ⟨s,[]⟩ h (aDO _) he
def WJ (m:Int) (l:List RT):Prop:=∀ a∈l,m≤a.1.slice
def zO (m:Int) (a:RT):Bool:=decide (a.1.left < m)
def under (m:Int) (l:List RT):Nat:=(l.filter (zO m)).length
theorem Rl {m:Int} {l l':List RT} (p:l.Perm l'):under m l=under m l':=(p.filter _).length_eq
theorem TC (m:Int) (a:RT) (l:List RT):under m (a :: l)=(if a.1.left < m then 1 else 0)+under m l:=by
 unfold under;rw [aD1];unfold zO;by_cases h:a.1.left < m
 ·rw [if_pos (decide_eq_true h),if_pos h,aCx,Nat.add_comm]
 ·rw [if_neg (by simpa using h),if_neg h,aDO]
theorem jO {m:Int} {l l':List RT} (h:l.Sublist l'):under m l≤under m l':=(h.filter _).length_le
theorem nX (m:Int) (l:List RT):under m l≤l.length:=aD6 _ _
theorem ext_sub (A:As) (id:Int):(Fl A id).l.Sublist A.l:=by
 unfold Fl;split
 ·exact List.filter_sublist
 ·exact List.Sublist.refl _
theorem SN:∀ (n:Nat) (A:As),(Cr n A).2.l.Sublist A.l
 | 0,A=>List.Sublist.refl _
 | n+1,A=>by
   unfold Cr;cases A.l.find? (GJ A) with
   | none=>exact List.Sublist.refl _
   | some a=>exact (SN n _).trans (ext_sub A _)
theorem set_sub (c:Cs):(DN c).A.l.Sublist c.A.l:=SN _ _
theorem kY {s:Ss} {c:Cs} {left m:Int} (h:BN s c.A) (hI:HP c) (hr:c.run≠0) (l0:0≤left) (he:E0 c left=0) (hm:WJ m c.A.l) :
 WJ m (DN (DL c left)).A.l∧(BW c left=left∨(BW c left < left∧((m≤BW c left∧under m (DN (DL c left)).A.l≤under m c.A.l)∨under m (DN (DL c left)).A.l+1≤under m c.A.l))):=by
 rcases hI with ⟨h1,_⟩ | ⟨a,ha,Vx,hpos,OD,_⟩
 ·exact absurd h1 hr
 have hf:=Cl h.o ha;have hg:DI c.A.l c.run=a.1:=by unfold DI;rw [Vx,hf]
 obtain ⟨p1,_,p3,p4,_⟩:=UZ hg l0 he;obtain ⟨f1,f2,_⟩:=Vr hg l0 he;have hid:BB (DG c left)=BB a:=p1
 have q1:(DL c left).A.l.Perm (DG c left :: Dn (BB a) c.A.l):=by
  show (GR c.A (DG c left)).l.Perm _;rw [Rr he,← hid];exact KS h.o
 have q2:=del_perm h.o hf;have hsub:=jO (m:=m) (set_sub (DL c left));rw [Rl q1,TC] at hsub;have hc:=Rl (m:=m) q2;rw [TC] at hc;have Co:=hm a ha;have en:BW c left=if a.1.left < left then a.1.left else left:=by unfold BW EJ;rw [hg]
 refine ⟨fun x hx=>?_,?_⟩
 ·have hx:=(set_sub (DL c left)).subset hx;rcases aCu.1 (q1.mem_iff.1 hx) with rfl | k
  ·rw [f1];exact Co
  ·exact hm x (q2.mem_iff.2 (aCy _ k))
 ·by_cases k:a.1.left < left
  ·rw [if_pos k] at en;rw [en];have e2:(DG c left).1.left=a.1.slice:=by rw [f2,if_pos om]
   rw [e2,if_neg om] at hsub;refine .inr ⟨k,?_⟩;by_cases k2:a.1.left < m
   ·rw [if_pos k2] at hc;exact .inr om
   ·rw [if_neg k2] at hc;exact .inl ⟨by omega,by omega⟩
  ·rw [if_neg k] at en;exact .inl en
theorem nO {a n m:Int} (hm:1≤m) (h:m≤n):(a - n) / m+1≤a / m:=by
 have h1:(a - n) / m≤(a - m) / m:=Int.ediv_le_ediv om om
 have h2:(a - m) / m=a / m - 1:=by
  have:=aD4 a (-1) (show m≠0 by omega);rw [show a+-1*m=a - m by omega] at this;omega
 omega
theorem WB {m:Int} (hm:1≤m):∀ (k:Nat) (left:Int) (c:Cs) (r:Rp),Bw c→HP c→0≤left→left≤1099511627776→WJ m c.A.l →
 (((DB k left c r).2.2.p.length:Nat):Int)≤r.p.length+under m c.A.l+left / m+1∧WJ m (DB k left c r).2.1.A.l
 | 0,left,c,r,_,_,l0,_,hs=>⟨by show ((r.p.length:Nat):Int)≤_;have:=aDc l0 (show 0≤m by omega);omega,hs⟩
 | k+1,left,c,r,hR,hI,l0,l1,hs=>by
   have h0:=aDc l0 (show 0≤m by omega);unfold DB;split
   ·rename_i hc;split
    ·rename_i he;obtain ⟨s,hs'⟩:=hR;obtain ⟨s1,h1⟩:=rep_srv hs' left;have hst:=L9 (c:=c) (most:=left) ⟨l0,by omega⟩ he;obtain ⟨a1,a2⟩:=kY hs' hI hc.2 l0 he hs;have el:(Hv c left r).p.length=r.p.length+1:=by show (r.p ++ [La c left]).length=_;simp
     rcases a2 with e | ⟨e1,e2⟩
     ·have e0:DB k (left - BW c left) (DN (DL c left)) (Hv c left r)=(0,DN (DL c left),Hv c left r):=by
       cases k with
       | zero=>rfl
       | succ k=>unfold DB;rw [if_neg om]
      rw [e0];refine ⟨?_,a1⟩;show (((Hv c left r).p.length:Nat):Int)≤_;omega
     ·obtain ⟨i1,i2⟩:=WB hm k (left - BW c left) (DN (DL c left)) (Hv c left r) (Jr ⟨s1,h1⟩) (inv_set h1) om om a1;refine ⟨?_,i2⟩;rcases e2 with ⟨e2,e3⟩ | e3
      ·have:=nO (a:=left) hm e2;omega
      ·have:(left - BW c left) / m≤left / m:=Int.ediv_le_ediv om om;omega
    ·exact ⟨by show ((r.p.length:Nat):Int)≤_;omega,hs⟩
   ·exact ⟨by show ((r.p.length:Nat):Int)≤_;omega,hs⟩
theorem jU {m:Int} (hm:1≤m) {c:Cs} {ns:Int} (hR:Bw c) (hI:HP c) (hs:WJ m c.A.l) (h0:0≤ns):(((A7 c ns).2.2.p.length:Nat):Int)≤33+ns / m∧WJ m (A7 c ns).2.1.A.l:=by
 have h2:=aDc h0 (show 0≤m by omega);unfold A7;split
 ·rename_i hc;obtain ⟨h1,h3⟩:=WB hm (ns.toNat+1) ns c .none hR hI h0 hc.2 hs;obtain ⟨s,hs'⟩:=hR;have e1:=hs'.le;have e2:=nX m c.A.l;have e3:Rp.none.p.length=0:=rfl;exact ⟨by omega,h3⟩
 ·exact ⟨by show ((0:Nat):Int)≤_;omega,hs⟩
theorem Xd {c:Cf} (h:FH c=0):1≤c.cores∧c.cores≤8∧1≤c.tasks∧c.tasks≤32∧1≤c.tick∧c.tick≤1099511627776∧1≤c.slice∧c.slice≤1099511627776:=by
 unfold FH at h;split at h
 ·cases h
 ·rename_i k;unfold F8 at h
  have w:∀ {n e:Int},BC n e≠0∨(1≤n∧n≤e):=fun {n e}=>by
   unfold BC;split
   ·exact .inl (by decide)
   ·exact .inr om
  split at h
  ·rename_i q;exact absurd h q
  ·rename_i q1;unfold F8 at h;split at h
   ·rename_i q;exact absurd h q
   ·rename_i q2;unfold F8 at h;split at h
    ·rename_i q;exact absurd h q
    ·rename_i q3;unfold F8 at h;split at h
     ·rename_i q;exact absurd h q
     ·rename_i q4;have r1:=(w (n:=c.cores) (e:=8)).resolve_left q1;have r2:=(w (n:=c.tasks) (e:=32)).resolve_left q2;have r3:=(w (n:=c.tick) (e:=1099511627776)).resolve_left q3;have r4:=(w (n:=c.slice) (e:=1099511627776)).resolve_left q4;omega
theorem gH {s:Sy} {n:Nat} {c:Cs} (h:s.k=List.replicate n c) {k:Nat} (hk:k < s.k.length):AK s k=c:=by
 have:=KN hk;rw [h] at this;exact (List.mem_replicate.1 this).2
theorem inv_new {c:Cf} (hc:c.In) (h:FH c=0):C3 (IS c):=by
 have k:=Xd h;refine ⟨⟨hc,k.1,k.2.1,?_,fun x hx=>?_,?_⟩,B7.rep _ _,fun d hd=>?_,fun d hd=>?_,fun i hi=>?_⟩
 ·show ((List.replicate c.cores.toNat (EY c.origin)).length:Int)=c.cores;rw [aD7];omega
 ·obtain rfl:=(List.mem_replicate.1 hx).2;exact CP.zero _
 ·show (List.replicate (Ey c.tasks) Tk.zero).length≤32;rw [aD7];unfold Ey;omega
 ·obtain rfl:=(List.mem_replicate.1 hd).2;exact ⟨_,BN.new _⟩
 ·obtain rfl:=(List.mem_replicate.1 hd).2;exact HP.new _
 ·rw [gH (s:=IS c) rfl hi];refine ⟨fun a ha=>(by cases ha),fun x hx=>?_,fun i hi=>(by cases hi)⟩;obtain ⟨h1,j,hj⟩:=GP hx;obtain rfl:=(List.mem_replicate.1 (aDJ hj)).2;exact absurd rfl h1
def Bj (m:Int) (t:List Tk):Prop:=∀ x∈A6 t,m≤x.slice
theorem U3 {m:Int} {t:List Tk} (h:Bj m t) {y:Tk} (hy:m≤y.slice) (i:Nat):Bj m (t.set i y):=fun x hx=>by
 obtain ⟨h1,j,hj⟩:=GP hx;rcases aD8 (aDJ hj) with q | rfl
 ·obtain ⟨j',hj'⟩:=List.getElem?_of_mem q;exact h x (GA.2 ⟨h1,j',hj'⟩)
 ·exact hy
theorem Ee {m:Int} {t:List Tk} (h:Bj m t) {y:Tk} (hy:Df (BK t y.id)=0→m≤y.slice):Bj m (ES t y):=by
 unfold ES;cases Ba y with
 | false=>exact h
 | true =>
   cases e:BK t y.id with
   | none=>exact h
   | some i=>exact U3 h (hy (by rw [e];rfl)) i
theorem dI {m:Int} {t:List Tk} (h:Bj m t) {y:Tk} (hy:m≤y.slice):Bj m (D4 t y):=by
 unfold D4;cases Ba y with
 | false=>exact h
 | true =>
   cases Dc t with
   | none=>exact h
   | some i=>exact U3 (y:={ y with id:=(i:Int)+1 }) h hy i
theorem Q9 {m:Int} {t:List Tk} (h:Bj m t) (id:Int):Bj m (FJ t id):=by
 unfold FJ;cases BK t id with
 | none=>exact h
 | some i =>
   intro x hx;obtain ⟨h1,j,hj⟩:=GP hx;rcases aD8 (aDJ hj) with q | rfl
   ·obtain ⟨j',hj'⟩:=List.getElem?_of_mem q;exact h x (GA.2 ⟨h1,j',hj'⟩)
   ·exact absurd rfl h1
theorem Rn {m:Int} (k:Int):∀ (G:List Gn) (s:Ch),B7 0 s.s.t→Bj m s.s.t→Bj m (G.foldl (D3 k) s).s.t
 | [],s,_,h=>h
 | g :: G,s,hI,h=>by
   refine Rn k G (D3 k s g) (hI.sets (Di s.s g)) (Ee (y:=Di s.s g) h fun he=>?_);by_cases e:Df (BK s.s.t g.id)=0
   ·exact h (Ay s.s.t g.id) (task_live hI e).1
   ·have ez:Ay s.s.t g.id = .zero:=by
     cases q:BK s.s.t g.id with
     | none=>unfold Ay;rw [q]
     | some i=>rw [q] at e;exact absurd rfl e
    have:(Di s.s g).id=0:=by show (Ay s.s.t g.id).id=0;rw [ez];rfl
    rw [this] at he;unfold BK at he;rw [if_neg om] at he;cases he
theorem least_absorb {m:Int} {s:Ch} (hI:B7 0 s.s.t) (h:Bj m s.s.t) (k:Int) (r:Rp):Bj m (BJ s k r).s.t:=by
 rw [NZ];exact Rn k _ _ hI h
theorem Vc (k:Int):∀ (G:List Gn) (s:Ch),B7 0 s.s.t→B7 0 (G.foldl (D3 k) s).s.t
 | [],_,h=>h
 | g :: G,s,h=>Vc k G (D3 k s g) (h.sets (Di s.s g))
theorem ids_absorb {s:Ch} (hI:B7 0 s.s.t) (k:Int) (r:Rp):B7 0 (BJ s k r).s.t:=by
 rw [NZ];exact Vc k _ _ hI
theorem HT {m:Int} {s:Ch} (hI:B7 0 s.s.t) (h:Bj m s.s.t) (k:Int) (l:Int × Cs × Rp):Bj m (DX s k l).2.s.t:=by
 unfold DX;split
 ·exact least_absorb (s:=⟨BX s.s k _,s.ev⟩) hI h k _
 ·exact h
theorem O4 {m:Int} {s:Ch} (hI:B7 0 s.s.t) (h:Bj m s.s.t) {y:Tk} (hy:m≤y.slice) (l:Int × Cs × Rp):Bj m (DY s y l).2.s.t:=by
 unfold DY;split
 ·exact least_absorb (s:=⟨Bz (BX s.s y.core _) y,s.ev⟩) (hI.sets y) (Ee h fun _=>hy) y.core _
 ·exact h
theorem least_leave {m:Int} {s:Ch} (hI:B7 0 s.s.t) (h:Bj m s.s.t) (x:Tk):Bj m (B0 s x).2.s.t∧B7 0 (B0 s x).2.s.t :=
 ⟨least_absorb (s:=⟨BX s.s x.core _,s.ev⟩) hI h x.core _,ids_absorb (s:=⟨BX s.s x.core _,s.ev⟩) hI x.core _⟩
theorem Q8 {m ns:Int}:∀ (n k:Nat) (s:Ch),B7 0 s.s.t→Bj m s.s.t→Bj m (Ca n k s ns).2.s.t
 | 0,_,_,_,h=>h
 | n+1,k,s,hI,h=>by
   unfold Ca;by_cases e0:(A7 (AK s.s k) ns).1=0
   ·have M7:(A7 (AK s.s k) ns).fst=0:=e0;rw [if_pos M7];exact Q8 n (k+1) _ (ids_absorb (s:=⟨BX s.s k _,s.ev⟩) hI k _) (least_absorb (s:=⟨BX s.s k _,s.ev⟩) hI h k _)
   ·have M7:¬ (A7 (AK s.s k) ns).fst=0:=e0;rw [if_neg M7];exact h
def aW (m:Int) (a:CK):Prop:=(a.d % 12 < 2∨a.d % 12=8)→1≤a.ns→m≤a.ns
theorem within_lo {n e:Int} (h:¬ BC n e≠0):1≤n∧n≤e:=by
 unfold BC at h;split at h
 ·exact absurd (by decide) h
 ·omega
theorem Hg {m:Int} {s:Ch} (hI:B7 0 s.s.t) (h:Bj m s.s.t) (id:Int) (f:Ch→Tk→Int × Ch) (hf:∀ x∈A6 s.s.t,x.id=id→Bj m (f s x).2.s.t):Bj m (By s id f).2.s.t:=by
 unfold By;split
 ·exact h
 ·rename_i c
  obtain ⟨h1,h2⟩:=task_live hI (id:=id) (by
   rcases Classical.em (Df (BK s.s.t id)=0) with q | q
   ·exact q
   ·exact absurd q c)
  exact hf _ h1 h2
theorem kR {m:Int} {s:Sy} (hI:B7 0 s.t) (h:Bj m s.t) {a:CK} (ha:aW m a):Bj m (CO s a).2.s.t:=by
 unfold CO;by_cases c1:a.d % 12 < 2
 ·rw [if_pos c1];show Bj m (Bc ⟨s,[]⟩ a.core a.w a.ns).2.2.s.t;by_cases q1:Cx s a.core a.w a.ns≠0
  ·rw [Kv (s:=⟨s,[]⟩) q1];exact h
  by_cases q2:Ef s.t (B8 a.core a.w a.ns)≠0
  ·rw [Km (s:=⟨s,[]⟩) q1 q2];exact h
  rw [Nq (s:=⟨s,[]⟩) q1 q2]
  have Dd:1≤a.ns:=by
   unfold Cx F8 at q1;split at q1
   ·rename_i z;exact absurd z q1
   ·unfold F8 at q1;split at q1
    ·rename_i z;exact absurd z q1
    ·unfold F8 at q1;split at q1
     ·rename_i z;exact absurd z q1
     ·rename_i z;exact (within_lo z).1
  have hm:m≤(B8 a.core a.w a.ns).slice:=ha (.inl c1) Dd;have hl:Bj m (KX ⟨s,[]⟩ a.core a.w a.ns).2.s.t:=HT (m:=m) (s:=⟨{ s with t:=D4 s.t (B8 a.core a.w a.ns) },[]⟩) (hI.add (B8 a.core a.w a.ns)) (dI h hm) _ _;split
  ·exact hl
  ·exact h
 rw [if_neg c1];by_cases c2:a.d % 12=2
 ·rw [if_pos c2];refine Hg (s:=⟨s,[]⟩) hI h a.id _ fun x hx e=>?_;unfold FQ;cases hc:BR x with
  | true=>rw [if_pos rfl];exact Q9 (least_leave hI h x).1 _
  | false=>rw [if_neg AA];exact Q9 h _
 rw [if_neg c2];by_cases c3:a.d % 12 < 5
 ·rw [if_pos c3];refine Hg (s:=⟨s,[]⟩) hI h a.id _ fun x hx e=>?_
  have hy:m≤(ED ⟨s,[]⟩ x a.id).slice:=by
   have:(ED ⟨s,[]⟩ x a.id).slice=x.slice:=jK _ _ _;rw [this];exact h x hx
  show Bj m (Fz ⟨s,[]⟩ x a.id).2.s.t;unfold Fz;split
  ·exact h
  ·exact O4 hI h hy _
 rw [if_neg c3];by_cases c4:a.d % 12 < 7
 ·rw [if_pos c4];refine Hg (s:=⟨s,[]⟩) hI h a.id _ fun x hx e=>?_;have hy:m≤({ x with st:=1 }:Tk).slice:=h x hx;show Bj m (EX ⟨s,[]⟩ x a.id).2.s.t;unfold EX;split
  ·exact h
  ·split
   ·exact HT (s:=⟨Bz s { x with st:=1 },[]⟩) (hI.sets { x with st:=1 }) (Ee h fun _=>hy) _ _
   ·exact O4 hI h hy _
 rw [if_neg c4];by_cases c5:a.d % 12=7
 ·rw [if_pos c5];refine Hg (s:=⟨s,[]⟩) hI h a.id _ fun x hx e=>?_;have hy:m≤({ x with w:=IntKind.u32.wrap a.w }:Tk).slice:=h x hx;show Bj m (DM ⟨s,[]⟩ x a.id a.w).2.s.t;unfold DM;split
  ·exact h
  ·split
   ·exact Ee h fun _=>hy
   ·exact HT (s:=⟨Bz s { x with w:=IntKind.u32.wrap a.w },[]⟩) (hI.sets { x with w:=IntKind.u32.wrap a.w }) (Ee h fun _=>hy) _ _
 rw [if_neg c5];by_cases c6:a.d % 12=8
 ·rw [if_pos c6];refine Hg (s:=⟨s,[]⟩) hI h a.id _ fun x hx e=>?_;show Bj m (Dp ⟨s,[]⟩ x a.id a.ns).2.s.t;unfold Dp;split
  ·exact h
  ·rename_i q;have hy:m≤({ x with slice:=a.ns }:Tk).slice:=ha (.inr c6) (within_lo q).1;split
   ·exact Ee h fun _=>hy
   ·exact HT (s:=⟨Bz s { x with slice:=a.ns },[]⟩) (hI.sets { x with slice:=a.ns }) (Ee h fun _=>hy) _ _
 rw [if_neg c6];by_cases c7:a.d % 12=9
 ·rw [if_pos c7];refine Hg (s:=⟨s,[]⟩) hI h a.id _ fun x hx e=>?_;show Bj m (C5 ⟨s,[]⟩ x a.core).2.s.t;by_cases q:CS s.cf a.core≠0∨a.core=x.core
  ·rw [Gd (s:=⟨s,[]⟩) q];exact h
  rw [Hh (s:=⟨s,[]⟩) q]
  have fin:∀ (u:Ch) (lag:Int),B7 0 u.s.t→Bj m u.s.t→Bj m (E6 u x a.core lag).2.s.t:=fun u lag hIu hu=>by
   have hy:m≤(Dv x a.core lag).slice:=h x hx;unfold E6;split
   ·exact HT (s:=⟨Bz u.s (Dv x a.core lag),u.ev⟩) (hIu.sets (Dv x a.core lag)) (Ee hu fun _=>hy) _ _
   ·exact Ee hu fun _=>hy
  split
  ·obtain ⟨l1,l2⟩:=least_leave (s:=⟨s,[]⟩) hI h x;exact fin _ _ l2 l1
  ·exact fin ⟨s,[]⟩ x.lag hI h
 rw [if_neg c7];show Bj m (EI ⟨s,[]⟩ a.ns).2.s.t;unfold EI;split
 ·exact h
 ·exact Q8 _ _ _ hI h
theorem least_core {m:Int} {s:Sy} (h:C3 s) (hl:Bj m s.t) {k:Nat} (hk:k < s.k.length):WJ m (AK s k).A.l:=fun a ha=>by
 obtain ⟨x,hx,ht⟩:=(h.tie k hk).fwd a ha;rw [← ht.2.2.2.2];exact hl x hx
theorem fO {m ns:Int} {s:Sy} (h:C3 s) (hl:Bj m s.t) (hm:1≤m) (h0:0≤ns) (hn:ns / m≤300) {k:Nat} (hk:k < s.k.length):(A7 (AK s k) ns).2.2.p.length≤333:=by
 have:=(jU hm (h.rep.at k) (h.inv _ (KN hk)) (least_core h hl hk) h0).1;omega
theorem kK (k:Int):∀ (G:List Gn) (s:Ch),(G.foldl (D3 k) s).s.k=s.s.k∧(G.foldl (D3 k) s).s.cf=s.s.cf
 | [],_=>⟨rfl,rfl⟩
 | g :: G,s=>kK k G (D3 k s g)
theorem absorb_k (s:Ch) (k:Int) (r:Rp):(BJ s k r).s.k=s.s.k∧(BJ s k r).s.cf=s.s.cf:=by
 rw [NZ];exact kK k _ _
theorem NA {s s':Sy} (h:s'.k=s.k) (j:Int):AK s' j=AK s j:=by unfold AK;rw [h]
theorem LJ {s:Sy} {k:Int} {j:Nat} (h0:0≤k) (h:(j:Int)≠k) (c:Cs):AK (BX s k c) j=AK s j:=by
 unfold AK BX;show (s.k.set k.toNat c).getD j (EY 0)=s.k.getD j (EY 0);rw [aDI,aDI,aDj,if_neg om]
def W3 (l:List Ev):Prop:=∀ x∈l,x.ns=0∧x.gone=true
structure Calm (s s':Ch) (K:List Int):Prop where
 k:∀ j:Nat,(j:Int)∉K→AK s'.s j=AK s.s j
 e:W3 s.ev→W3 s'.ev
 cf:s'.s.cf=s.s.cf
theorem Calm.refl (s:Ch) (K:List Int):Calm s s K:=⟨fun _ _=>rfl,id,rfl⟩
theorem Calm.trans {s s1 s2:Ch} {K:List Int} (h:Calm s s1 K) (h':Calm s1 s2 K):Calm s s2 K:=⟨fun j hj=>(h'.k j hj).trans (h.k j hj),fun e=>h'.e (h.e e),h'.cf.trans h.cf⟩
theorem Calm.rows {s:Ch} (t:List Tk) (K:List Int):Calm s ⟨{ s.s with t:=t },s.ev⟩ K:=⟨fun _ _=>rfl,id,rfl⟩
theorem RE {s s1:Ch} {K:List Int} (h:Calm s s1 K) (k:Int) {r:Rp} (hr:r.p=[]):Calm s (BJ s1 k r) K:=by
 refine ⟨fun j hj=>(NA (absorb_k s1 k r).1 j).trans (h.k j hj),fun e x hx=>?_,(absorb_k s1 k r).2.trans h.cf⟩;rw [Il,hr,aDD,aDP] at hx;rcases aC4.1 hx with q | q
 ·exact h.e e x q
 ·obtain ⟨g,_,rfl⟩:=List.mem_map.1 q;exact ⟨rfl,rfl⟩
theorem calm_set {s:Ch} {k:Int} {K:List Int} (h0:0≤k) (hk:k∈K) (c:Cs) (t:List Tk):Calm s ⟨BX { s.s with t:=t } k c,s.ev⟩ K :=
 ⟨fun j hj=>LJ (s:={ s.s with t:=t }) h0 (fun e=>hj (e ▸ hk)) c,id,rfl⟩
theorem Rt {e:Int} {c1:Cs}:(BO e c1 .none).p=[]:=by unfold BO;split <;> rfl
theorem IK {s:Ch} {k:Int} {K:List Int} (h0:0≤k) (hk:k∈K) (l:Int × Cs):Calm s (DX s k (l.1,l.2,.none)).2 K:=by
 unfold DX;split
 ·exact RE (calm_set h0 hk _ s.s.t) k Rt
 ·exact .refl _ _
theorem Px {s:Ch} {y:Tk} {K:List Int} (h0:0≤y.core) (hk:y.core∈K) (l:Int × Cs):Calm s (DY s y (l.1,l.2,.none)).2 K:=by
 unfold DY;split
 ·exact RE (calm_set h0 hk _ (ES s.s.t y)) y.core Rt
 ·exact .refl _ _
theorem calm_leave {s:Ch} {x:Tk} {K:List Int} (h0:0≤x.core) (hk:x.core∈K):Calm s (B0 s x).2 K:=RE (calm_set h0 hk _ s.s.t) x.core Rt
theorem I7 {s:Ch} (id:Int) (f:Ch→Tk→Int × Ch) {K:List Int} (hf:Df (BK s.s.t id)=0→Calm s (f s (Ay s.s.t id)).2 K):Calm s (By s id f).2 K:=by
 unfold By;split
 ·exact .refl _ _
 ·rename_i c;refine hf ?_;rcases Classical.em (Df (BK s.s.t id)=0) with q | q
  ·exact q
  ·exact absurd q c
theorem Wi {s:Sy} (h:EE s) (hI:B7 0 s.t) {a:CK} (hd:a.d % 12 < 10) {K:List Int} (h1:a.core∈K) (h2:Df (BK s.t a.id)=0→1 < a.d % 12→(Ay s.t a.id).core∈K):Calm ⟨s,[]⟩ (CO s a).2 K:=by
 have hx:Df (BK s.t a.id)=0→0≤(Ay s.t a.id).core:=fun e=>by
  obtain ⟨k1,_⟩:=task_live hI e;obtain ⟨k,hk,_⟩:=h.Fy k1;omega
 unfold CO;by_cases c1:a.d % 12 < 2
 ·rw [if_pos c1];show Calm ⟨s,[]⟩ (Bc ⟨s,[]⟩ a.core a.w a.ns).2.2 K;by_cases q1:Cx s a.core a.w a.ns≠0
  ·rw [Kv (s:=⟨s,[]⟩) q1];exact .refl _ _
  by_cases q2:Ef s.t (B8 a.core a.w a.ns)≠0
  ·rw [Km (s:=⟨s,[]⟩) q1 q2];exact .refl _ _
  rw [Nq (s:=⟨s,[]⟩) q1 q2]
  have h0:0≤a.core:=by
   unfold Cx F8 at q1;split at q1
   ·rename_i z;exact absurd z q1
   ·rename_i z;unfold CS at z;split at z
    ·exact absurd (by decide) z
    ·omega
  split
  ·exact (Calm.rows (s:=⟨s,[]⟩) (D4 s.t (B8 a.core a.w a.ns)) K).trans (IK (k:=a.core) h0 h1 _)
  ·exact .refl _ _
 rw [if_neg c1];have hk:=fun e=>h2 e om;by_cases c2:a.d % 12=2
 ·rw [if_pos c2];refine I7 (s:=⟨s,[]⟩) a.id _ fun e=>?_;unfold FQ;split
  ·exact (calm_leave (s:=⟨s,[]⟩) (hx e) (hk e)).trans (Calm.rows _ K)
  ·exact Calm.rows _ K
 rw [if_neg c2];by_cases c3:a.d % 12 < 5
 ·rw [if_pos c3];refine I7 (s:=⟨s,[]⟩) a.id _ fun e=>?_;have hc:(ED ⟨s,[]⟩ (Ay s.t a.id) a.id).core=(Ay s.t a.id).core:=UW _ _ _;show Calm ⟨s,[]⟩ (Fz ⟨s,[]⟩ (Ay s.t a.id) a.id).2 K;unfold Fz;split
  ·exact .refl _ _
  ·exact Px (by rw [hc];exact hx e) (by rw [hc];exact hk e) _
 rw [if_neg c3];by_cases c4:a.d % 12 < 7
 ·rw [if_pos c4];refine I7 (s:=⟨s,[]⟩) a.id _ fun e=>?_;show Calm ⟨s,[]⟩ (EX ⟨s,[]⟩ (Ay s.t a.id) a.id).2 K;unfold EX;split
  ·exact .refl _ _
  ·split
   ·exact (Calm.rows (s:=⟨s,[]⟩) _ K).trans (IK (hx e) (hk e) _)
   ·exact Px (y:={ Ay s.t a.id with st:=1 }) (hx e) (hk e) _
 rw [if_neg c4];by_cases c5:a.d % 12=7
 ·rw [if_pos c5];refine I7 (s:=⟨s,[]⟩) a.id _ fun e=>?_;show Calm ⟨s,[]⟩ (DM ⟨s,[]⟩ (Ay s.t a.id) a.id a.w).2 K;unfold DM;split
  ·exact .refl _ _
  ·split
   ·exact Calm.rows _ K
   ·exact (Calm.rows (s:=⟨s,[]⟩) _ K).trans (IK (hx e) (hk e) _)
 rw [if_neg c5];by_cases c6:a.d % 12=8
 ·rw [if_pos c6];refine I7 (s:=⟨s,[]⟩) a.id _ fun e=>?_;show Calm ⟨s,[]⟩ (Dp ⟨s,[]⟩ (Ay s.t a.id) a.id a.ns).2 K;unfold Dp;split
  ·exact .refl _ _
  ·split
   ·exact Calm.rows _ K
   ·exact (Calm.rows (s:=⟨s,[]⟩) _ K).trans (IK (hx e) (hk e) _)
 rw [if_neg c6,if_pos (show a.d % 12=9 by omega)];refine I7 (s:=⟨s,[]⟩) a.id _ fun e=>?_;show Calm ⟨s,[]⟩ (C5 ⟨s,[]⟩ (Ay s.t a.id) a.core).2 K;by_cases q:CS s.cf a.core≠0∨a.core=(Ay s.t a.id).core
 ·rw [Gd (s:=⟨s,[]⟩) q];exact .refl _ _
 rw [Hh (s:=⟨s,[]⟩) q]
 have h0:0≤a.core:=by
  rcases Int.lt_or_le a.core 0 with z | z
  ·exact absurd (.inl (by unfold CS;rw [if_pos (.inl z)];decide)) q
  ·exact z
 have fin:∀ (u:Ch) (lag:Int),Calm ⟨s,[]⟩ u K→Calm ⟨s,[]⟩ (E6 u (Ay s.t a.id) a.core lag).2 K:=fun u lag hu=>by
  unfold E6;split
  ·exact (hu.trans (Calm.rows (ES u.s.t (Dv (Ay s.t a.id) a.core lag)) K)).trans (IK (k:=a.core) h0 h1 _)
  ·exact hu.trans (Calm.rows (ES u.s.t (Dv (Ay s.t a.id) a.core lag)) K)
 split
 ·exact fin _ _ (calm_leave (s:=⟨s,[]⟩) (hx e) (hk e))
 ·exact fin ⟨s,[]⟩ _ (.refl _ _)
def CW (l:List Ev) (k:Int):Int:=(l.map fun x=>if x.core=k then x.ns else 0).foldl (·+·) 0
theorem JW (l m:List Ev) (k:Int):CW (l ++ m) k=CW l k+CW m k:=by
 unfold CW;rw [aDa,aDh,foldl_add]
theorem QD (l:List Ev) (x:Ev) (k:Int):CW (l ++ [x]) k=CW l k+if x.core=k then x.ns else 0:=by
 rw [JW];congr 1;show (0:Int)+(if x.core=k then x.ns else 0)=_;omega
theorem PE {l:List Ev} (h:W3 l) (k:Int):CW l k=0:=by
 induction l with
 | nil=>rfl
 | cons x l ih =>
   rw [show x :: l=[x] ++ l from rfl,JW,ih (fun y hy=>h y (aCy _ hy))];show (0:Int)+(if x.core=k then x.ns else 0)+0=0;rw [(h x aCw).1];split <;> rfl
theorem Wo (l:List Pr) (k j:Int):CW (l.map (Ke k)) j=if k=j then Hq l else 0:=by
 induction l with
 | nil=>show (0:Int)=_;split <;> rfl
 | cons p l ih =>
   rw [aC2,show Ke k p :: l.map (Ke k)=[Ke k p] ++ l.map (Ke k) from rfl,JW,ih]
   have e1:CW [Ke k p] j=if k=j then p.ns else 0:=by
    show (0:Int)+(if (Ke k p).core=j then (Ke k p).ns else 0)=_;show (0:Int)+(if k=j then p.ns else 0)=_;omega
   have e2:Hq (p :: l)=p.ns+Hq l:=by
    unfold Hq;rw [aC2,aDZ,foldl_add];omega
   rw [e1,e2];split <;> omega
theorem VA (s:Ch) (k:Int) (r:Rp) (j:Int):CW (BJ s k r).ev j=CW s.ev j+if k=j then Hq r.p else 0:=by
 rw [Il,JW,JW,Wo,PE (l:=r.g.map fun g=>⟨k,g.id,0,false,true⟩) (fun x hx=>by
  obtain ⟨g,_,rfl⟩:=List.mem_map.1 hx;exact ⟨rfl,rfl⟩)]
 omega
theorem O5 {ns:Int}:∀ (n k:Nat) (s:Ch),k+n=s.s.k.length→(Ca n k s ns).1=0→∀ j:Nat,CW (Ca n k s ns).2.ev j=CW s.ev j+if k≤j∧j < k+n then Hq (A7 (AK s.s j) ns).2.2.p else 0
 | 0,k,s,_,_,j=>by
   rw [if_neg om];show CW s.ev j=_;omega
 | n+1,k,s,hk,he,j=>by
   unfold Ca at he ⊢;by_cases e0:(A7 (AK s.s k) ns).1=0
   ·have M7:(A7 (AK s.s k) ns).fst=0:=e0;rw [if_pos M7] at he;rw [if_pos M7];have hl:=absorb_k ⟨BX s.s k (CU (AK s.s k) (A7 (AK s.s k) ns).1 (A7 (AK s.s k) ns).2.1),s.ev⟩ k (BO (A7 (AK s.s k) ns).1 (A7 (AK s.s k) ns).2.1 (A7 (AK s.s k) ns).2.2)
    have hlen:k+1+n=(BJ ⟨BX s.s k (CU (AK s.s k) (A7 (AK s.s k) ns).1 (A7 (AK s.s k) ns).2.1),s.ev⟩ k (BO (A7 (AK s.s k) ns).1 (A7 (AK s.s k) ns).2.1 (A7 (AK s.s k) ns).2.2)).s.k.length:=by
     rw [hl.1];show k+1+n=(s.s.k.set _ _).length;rw [aDN];omega
    rw [O5 n (k+1) _ hlen he j,VA];show CW s.ev j+(if (k:Int)=j then Hq (BO _ _ _).p else 0)+_=_;have ep:(BO (A7 (AK s.s k) ns).1 (A7 (AK s.s k) ns).2.1 (A7 (AK s.s k) ns).2.2).p=(A7 (AK s.s k) ns).2.2.p:=by unfold BO;rw [if_pos e0]
    rw [ep];by_cases q:j=k
    ·subst q;rw [if_pos rfl,if_neg om,if_pos om];omega
    ·rw [if_neg (fun e=>q om),NA hl.1,LJ om om];by_cases z:k+1≤j∧j < k+1+n
     ·rw [if_pos z,if_pos om];omega
     ·rw [if_neg z,if_neg om];omega
   ·have M7:¬ (A7 (AK s.s k) ns).fst=0:=e0;rw [if_neg M7] at he;exact absurd he e0
theorem Ye {s:Sy} (h:C3 s) {a:CK} (ha:a.In) (hd:9 < a.d % 12) (he:(CO s a).1=0) {j:Nat} (hj:j < s.k.length):CW (CO s a).2.ev j=if (AK s j).run≠0 then a.ns else 0:=by
 have Ri:CO s a=EI ⟨s,[]⟩ a.ns:=by
  unfold CO;rw [if_neg om,if_neg om,if_neg om,if_neg om,if_neg om,if_neg om,if_neg om]
 rw [Ri] at he ⊢;unfold EI at he ⊢;by_cases c8:BC a.ns (D7 (Ch.s ⟨s,[]⟩).cf.tick)≠0
 ·rw [if_pos c8] at he;exact absurd he c8
 rw [if_neg c8] at he ⊢
 have hn:1≤a.ns∧a.ns≤1099511627776:=by
  have:=within_lo c8;unfold D7 at this;split at this <;> omega
 have e0:∀ (n k:Nat) (u:Ch),(∀ i:Nat,k≤i→i < u.s.k.length→AK u.s i=AK s i)→k+n=u.s.k.length→(Ca n k u a.ns).1=0→k≤j→j < k+n→(A7 (AK s j) a.ns).1=0:=by
  intro n
  induction n with
  | zero=>intro k u _ _ _ h1 h2;omega
  | succ n ih =>
    intro k u hu hk hq h1 h2;unfold Ca at hq;by_cases e:(A7 (AK u.s k) a.ns).1=0
    ·have e':(A7 (AK u.s k) a.ns).fst=0:=e;rw [if_pos e'] at hq;by_cases z:j=k
     ·subst z;rw [← hu j (aC5 _) om];exact e
     ·have hl:=absorb_k ⟨BX u.s k (CU (AK u.s k) (A7 (AK u.s k) a.ns).1 (A7 (AK u.s k) a.ns).2.1),u.ev⟩ k (BO (A7 (AK u.s k) a.ns).1 (A7 (AK u.s k) a.ns).2.1 (A7 (AK u.s k) a.ns).2.2);have GF:(u.s.k.set k (CU (AK u.s k) (A7 (AK u.s k) a.ns).1 (A7 (AK u.s k) a.ns).2.1)).length=u.s.k.length:=aDN;refine ih (k+1) _ (fun i hi1 hi2=>?_) ?_ hq om om
      ·rw [NA hl.1,LJ om om];refine hu i om ?_;rw [hl.1] at hi2;have hi2:i < (u.s.k.set k (CU (AK u.s k) (A7 (AK u.s k) a.ns).1 (A7 (AK u.s k) a.ns).2.1)).length:=hi2;omega
      ·rw [hl.1];show k+1+n=(u.s.k.set k _).length;rw [GF];omega
    ·have e':¬ (A7 (AK u.s k) a.ns).fst=0:=e;rw [if_neg e'] at hq;exact absurd hq e
 have ht:=e0 s.k.length 0 ⟨s,[]⟩ (fun _ _ _=>rfl) (aDO _) he (aC7 _) om;rw [O5 s.k.length 0 ⟨s,[]⟩ (aDO _) he j,if_pos ⟨aC7 _,by omega⟩];show (0:Int)+Hq (A7 (AK s j) a.ns).2.2.p=_;have hI:=h.inv _ (KN hj);have hR:=h.rep.at j;unfold A7 at ht ⊢;rw [if_pos hn] at ht ⊢;by_cases q:(AK s j).run≠0
 ·rw [if_pos q,Qa (a.ns.toNat+1) a.ns (AK s j) .none hR hn.2 om om hI q ht];show (0:Int)+(0+a.ns)=a.ns;omega
 ·rw [if_neg q];unfold DB;rw [if_neg (by rintro ⟨_,z⟩;exact q z)];rfl
theorem tD {s:Sy} (h:C3 s) {k:Nat} (hk:k < s.k.length) :
 ((AK s k).run≠0↔∃ x∈A6 s.t,x.core=k∧x.st=1) ∧
 ((AK s k).run≠0→Df (BK s.t (AK s k).run)=0∧(Ay s.t (AK s k).run).st=1∧(Ay s.t (AK s k).run).core=k∧∃ a∈(AK s k).A.l,(AK s k).run=BB a∧a.1.asleep=false∧0≤NI (AK s k).A a) ∧
 ((AK s k).run=0→∀ x∈A6 s.t,x.core=k→BR x=false):=by
 have hT:=h.tie k hk;have hI:=h.inv _ (KN hk)
 have key:∀ {a:RT},a∈(AK s k).A.l→a.1.asleep=false→∃ x∈A6 s.t,x.id=BB a∧x.core=k∧x.st=1:=fun {a} ha OD=>by
  obtain ⟨x,hx,ht⟩:=hT.fwd a ha;exact ⟨x,hx,ht.1,ht.2.1,by rw [ht.2.2.1,OD];rfl⟩
 refine ⟨⟨fun hr=>?_,fun ⟨x,hx,h1,h2⟩ hr=>?_⟩,fun hr=>?_,fun hr x hx hc=>?_⟩
 ·rcases hI with ⟨h1,_⟩ | ⟨a,ha,_,_,OD,_⟩
  ·exact absurd h1 hr
  ·obtain ⟨x,hx,_,e2,e3⟩:=key ha OD;exact ⟨x,hx,e2,e3⟩
 ·have hn:=hI.runs.2 hr;rcases hT.bwd x hx (LS.2 (.inl h2)) h1 AA with ⟨a,ha,_⟩ | q
  ·rw [hn] at ha;cases ha
  ·cases q
 ·rcases hI with ⟨h1,_⟩ | ⟨a,ha,Vx,_,OD,h0⟩
  ·exact absurd h1 hr
  ·obtain ⟨x,hx,e1,e2,e3⟩:=key ha OD;obtain ⟨_,_,_,f⟩:=GG h.ids hx;rw [Vx,← e1,f];exact ⟨Qk h.ids hx,e3,e2,a,ha,e1,OD,h0⟩
 ·have hn:=hI.runs.2 hr;cases q:BR x with
  | false=>rfl
  | true =>
    rcases hT.bwd x hx q hc AA with ⟨a,ha,_⟩ | z
    ·rw [hn] at ha;cases ha
    ·cases z
end Go.Proofs.Q0
namespace Go.Proofs.Q0
open Go Go.RowKit Tryz
attribute [local irreducible] XS XC XA AY AR A9 A1 A0 Aa Ae AW SE
structure Af (w0 w:World) (hb sb tb rb:Nat) (v ve:Value) (s':Ch) (L L':List Ce) (G Ge:List Nat) (rv:Value) (rp:Rp):Prop where
 p:M0 w rv rp
 c:CY w hb sb tb rb v ve s' L' G Ge
 f:∀ k∈CC hb sb tb rb L' G Ge,k∈CC hb sb tb rb L G Ge∨w0.heap.size≤k
 o:AB (CC hb sb tb rb L G Ge) w0 w
theorem M0.Fi {w w':World} {rv:Value} {r:Rp} {F:List Nat} (h:M0 w rv r) (ho:AB F w w') (hF:∀ b∈F,∃ cs ty fz,w.heap[b]?=some (.cells cs ty fz)∧ty≠170∧ty≠168):M0 w' rv r:=by
 obtain ⟨vg,vp,Gg,Gp,rfl,p1,p2⟩:=h;exact ⟨vg,vp,Gg,Gp,rfl,p1.keep ho (fun k hk hm=>by obtain ⟨cs,ty,fz,a,b,c⟩:=hF k hm;exact BQ p1 a b hk),p2.keep ho (fun k hk hm=>by obtain ⟨cs,ty,fz,a,b,c⟩:=hF k hm;exact BQ p2 a c hk)⟩
theorem Af.keep {w0 w w':World} {hb sb tb rb:Nat} {v ve:Value} {s':Ch} {L L':List Ce} {G Ge:List Nat} {rv:Value} {rp:Rp} (h:Af w0 w hb sb tb rb v ve s' L L' G Ge rv rp) (ho:AB [] w w'):Af w0 w' hb sb tb rb v ve s' L L' G Ge rv rp :=
 ⟨h.p.Fi ho AA,h.c.only ho,h.f,h.o.step ho AA⟩
theorem CY.aAd {w w':World} {hb sb tb rb:Nat} {v ve:Value} {s:Ch} {L:List Ce} {G Ge F:List Nat} (h:CY w hb sb tb rb v ve s L G Ge) (ho:AB F w w') (hF:∀ b∈F,∃ cs ty fz,w.heap[b]?=some (.cells cs ty fz)∧r8 (.cells cs ty fz)=true):CY w' hb sb tb rb v ve s L G Ge:=by
 have hd:∀ k∈CC hb sb tb rb L G Ge,k∉F:=fun k hk hm=>by
  obtain ⟨cs,ty,fz,a,b⟩:=hF k hm;exact h.at.not a b hk
 exact ⟨ho.block h.h (hd _ (by simp [CC])),h.s.Ai ho (fun k hk=>hd k (by simp only [CC,aCu,aC4] at hk ⊢;exact .inr (.inl hk))),h.e.keep ho (fun k hk=>hd k (by simp [CC,hk]))⟩
theorem Af.store {w0 w w':World} {hb sb tb rb:Nat} {v ve:Value} {s':Ch} {L L':List Ce} {G Ge:List Nat} {rv:Value} {rp:Rp} (h:Af w0 w hb sb tb rb v ve s' L L' G Ge rv rp) {b:Nat} {cs:Array Value} {ty:Nat} {fz:Nat × Nat} (ho:AB [b] w w') (hb':w.heap[b]?=some (.cells cs ty fz)) (h1:r8 (.cells cs ty fz)=true) (h2:ty≠170) (h3:ty≠168) (h4:w0.heap.size≤b):Af w0 w' hb sb tb rb v ve s' L L' G Ge rv rp :=
 ⟨h.p.Fi ho (fun k hk=>by obtain rfl:=List.mem_singleton.1 hk;exact ⟨cs,ty,fz,hb',h2,h3⟩),h.c.aAd ho (fun k hk=>by obtain rfl:=List.mem_singleton.1 hk;exact ⟨cs,ty,fz,hb',h1⟩),h.f,h.o.step ho (fun k hk => .inr (by obtain rfl:=List.mem_singleton.1 hk;exact h4))⟩
theorem CX {w0 w w':World} {hb sb tb rb:Nat} {v ve:Value} {s:Ch} {L:List Ce} {G Ge:List Nat} {n:Nat} {e:Ce} {rv:Value} {er:Int} {c1:Cs} {r1:Rp} (hO:CY w hb sb tb rb v ve s L G Ge) (he:L[n]?=some e) (T:HS w e.cb e.F rv er e.c c1 r1 w') (hw:AB [] w0 w) :
 ∃ L',Af w0 w' hb sb tb rb v ve ⟨BX s.s n (CU e.c er c1),s.ev⟩ L L' G Ge rv (BO er c1 r1):=by
 obtain ⟨IG,⟨F',hC',C0⟩,QB⟩:=T;obtain ⟨_,_,_,_,_,hcb,_⟩:=(hO.s.c.c e (aDJ he)).FA;obtain ⟨L',h1,h2⟩:=C9.put hO.s (k:=(n:Int)) (by rw [Int.toNat_natCast];exact he) hC' C0 QB;have n1:hb≠e.cb:=A3 hO.h hcb (by decide);have hz:=hw.size
 have hcm:e.cb∈sb :: tb :: rb :: (G ++ EP L):=by
  simp only [aCu,aC4];exact .inr (.inr (.inr (.inr (Dr.2 ⟨e,aDJ he,(hO.s.c.c e (aDJ he)).mem⟩))))
 refine ⟨L',IG,⟨QB.block hO.h (by simpa using n1),h1,hO.e.keep QB fun k hk hm=>by obtain rfl:=List.mem_singleton.1 hm;exact BQ hO.e hcb (by decide) hk⟩,fun k hk=>?_,(hw.weaken AA).step QB fun k hk => .inl ?_⟩
 ·simp only [CC,aCu,aC4] at hk ⊢;rcases hk with hk | hk | hk
  ·exact .inl (.inl hk)
  ·rcases h2 k (by simp only [aCu,aC4];exact hk) with q | q
   ·simp only [aCu,aC4] at q;exact .inl (.inr (.inl q))
   ·exact .inr om
  ·exact .inl (.inr (.inr hk))
 ·obtain rfl:=List.mem_singleton.1 hk;simp only [CC,aCu,aC4] at hcm ⊢;exact .inr (.inl hcm)
theorem CY.aAI {w:World} {hb sb tb rb:Nat} {v ve:Value} {s:Ch} {L:List Ce} {G Ge:List Nat} (h:CY w hb sb tb rb v ve s L G Ge) {b:Nat} {cs:Array Value} {fz:Nat × Nat} (h1:w.heap[b]?=some (.cells cs 51 fz)) (hne:b≠rb):b∉CC hb sb tb rb L G Ge:=fun hm=>by
 obtain ⟨cap,rest,a1,a2,_⟩:=h.s.t;simp only [CC,aCu,aC4] at hm;rcases hm with rfl | (rfl | rfl | rfl | hm | hm) | hm
 ·exact A3 h1 h.h (by decide) rfl
 ·exact A3 h1 h.s.o (by decide) rfl
 ·exact A3 h1 a1 (by decide) rfl
 ·exact hne rfl
 ·exact BQ h.s.c.a h1 (by decide) hm
 ·obtain ⟨x,hx,hk⟩:=Dr.1 hm;exact (h.s.c.c x hx).not h1 rfl hk
 ·exact BQ h.e h1 (by decide) hm
theorem IV {w0 w1:World} {F F1 F2:List Nat} (h:∀ k∈F1,k∈F∨w0.heap.size≤k) (h2:∀ k∈F2,k∈F1∨w1.heap.size≤k) (hz:w0.heap.size≤w1.heap.size):∀ k∈F2,k∈F∨w0.heap.size≤k:=fun k hk=>by
 rcases h2 k hk with q | q
 ·exact h k q
 ·exact .inr om
abbrev Nf (x:Tk):Obj := .cells #[.int .i64 x.id,.int .u8 x.st,.int .i64 x.core,.int .u32 x.w,.int .u64 x.slice,.int .i64 x.lag] 51 (0,0)
theorem SB (hb:Nat) (s:Ch) (F:List Nat) (x:Tk) (w0:World) (h:De w0 hb s F) (hx:CP s.s.cf.cores x) (hn:x.st≠0) (hl:s.ev.length≤1000000) :
 AO prog 66 #[.pointer (some ⟨hb,0,none⟩),KM x] w0 fun v w'=>v = .int .i64 (B0 s x).1∧sR w0 hb (B0 s x).2 F w':=by
 obtain ⟨sb,tb,rb,v,ve,L,G,Ge,rfl,hO⟩:=h.FA;obtain ⟨n,Fa,hlt⟩:=hO.s.ok.at hx hn;obtain ⟨e,he,hC,hce⟩:=hO.s.c.at hlt;obtain ⟨g,cap,cur,rfl,hg,GI⟩:=hO.s.c.ptr he;have WD:=hO.s.c.len;have QV:=hx.1;have hxs:=hx.2.2.2.2.1;have hR:Bw e.c:=hC.bS;obtain ⟨_,_,_,_,_,hcb,_⟩:=hC.FA;have eL:B0 s x=(GK s.s.cf (C2 (AK s.s x.core).A x.id) x.slice,BJ ⟨BX s.s x.core (CU (AK s.s x.core) (Az (AK s.s x.core) x.id).1 (Az (AK s.s x.core) x.id).2),s.ev⟩ x.core (BO (Az (AK s.s x.core) x.id).1 (Az (AK s.s x.core) x.id).2 .none)):=rfl;rw [Fa,show AK s.s n=e.c from hce.symm] at eL;rw [eL];obtain ⟨xi,xt,xc,xw,Cd,xl⟩:=x;simp only at Fa QV hxs;subst Fa;simp only;have hs:=(((St.nil w0).AF hg).AF hO.s.o).AF hO.h;refine AS func66 ntmps66 ?_;refine Ah ?_;refine Aq ?_;refine Gv hs ?_;clear hs;intro b3 w1 AL z1 hs;refine Jc ?_;have GZ:Cj (BO (Az e.c xi).1 (Az e.c xi).2 .none):=Cj.none.try (FI hR xi)
 have hkn:=HI (e:=(Az e.c xi).1) (r1 := .none) (FI hR xi);generalize hrp:BO (Az e.c xi).1 (Az e.c xi).2 .none=rp at GZ hkn
 refine B9 (fun (y:Nat × Nat × Value × Value × List Ce)=>[(0,.pointer (some ⟨hb,0,none⟩)),(3,.pointer (some ⟨b3,0,none⟩)),(5,.pointer (some ⟨y.1,0,none⟩)),(6,.pointer (some ⟨y.2.1,0,none⟩))])
  (fun y w=>w.heap[b3]?=some (Nf ⟨xi,xt,n,xw,Cd,xl⟩)∧w.heap[y.1]?=some (Gr (C2 e.c.A xi))∧w.heap[y.2.1]?=some (K7 y.2.2.1 y.2.2.2.1)∧Af w0 w hb sb tb rb (.slice (some ⟨g,0,none⟩) L.length cap) ve ⟨BX s.s n (CU e.c (Az e.c xi).1 (Az e.c xi).2),s.ev⟩ L y.2.2.2.2 G Ge (.agg #[y.2.2.1,y.2.2.2.1]) rp) ?_ ?_
 ·refine Hy [] hs ?_;clear hs;intro hX w CG hs;have BD:=AL.trans CG;refine tks 0 9 ?_;refine tk 9 hX (hr:=fun w' hH=>BA AJ rfl rfl rfl (by show (0:Int)≤(n:Int);omega) (by show (n:Int) < _;omega)) (k:=?_);refine tk 10 hX (hr:=fun w' hH=>r_load AJ rfl rfl (hH rfl) AX (by simpa using GI)) ?_;refine tks 11 2 ?_;have fin:∀ (b5 b6:Nat) (H:List Br),True:=fun _ _ _=>trivial;refine jS 13 18 19 hX (h1:=?_) (h2:=?_) (h3:=?_)
  ·skip
   refine cl (h:=by exact JM e.cb e.c e.F xi _ (hC.only BD) QV) ?_;rintro v1 w2 ⟨rv,rfl,T⟩;have hf:=T.form;rw [hrp] at hf;obtain ⟨ag,cg,ap,cp,rfl⟩:=hf;obtain ⟨L',hA⟩:=CX (hO.only BD) he T BD;rw [hrp] at hA;replace hs:=hs.Dj T.2.2 (fun k hk=>by obtain rfl:=List.mem_singleton.1 hk;exact hs.Ec (BD.block hcb AA));refine Jn ?_;refine tks 14 4 ?_;refine HR 18 19 hX (h1:=?_) (h2:=?_)
   ·skip
    refine FK hs ?_;clear hs;intro b5 w5 BL z5 hs;have y5:w0.heap.size≤b5:=aC9 (AB.size hA.o) z5;replace hA:=hA.keep BL;refine Jn ?_;refine dt 19 hX ?_;refine FK hs ?_;clear hs;intro b6 w6 Ao z6 hs;have y6:w0.heap.size≤b6:=aC9 (AB.size hA.o) z6;replace hA:=hA.keep Ao;refine Jn ?_;refine dt 20 hX ?_;have q5:=hs.get (b:=b5) AX;refine D2 hs ?_;clear hs;intro Mm E3 hs;replace hA:=hA.store E3 q5 rfl (by decide) (by decide) y5;refine Jn ?_;refine dt 21 hX ?_;have q6:=hs.get (b:=b6) AX;refine D2 hs ?_;clear hs;intro JI CT hs;replace hA:=hA.store CT q6 rfl (by decide) (by decide) y6;refine Jn ?_;refine tk 22 hX ?_;refine en ?_;have r3:=hs.get (b:=b3) AX;have r5:=hs.get (b:=b5) AX;have r6:=hs.get (b:=b6) AX;exact AQ (b5,b6,.slice ag rp.g.length cg,.slice ap rp.p.length cp,L') Ad ⟨r3,r5,r6,hA⟩
   ·skip
    refine FK hs ?_;clear hs;intro b6 w6 Ao z6 hs;have y6:w0.heap.size≤b6:=aC9 (AB.size hA.o) z6;replace hA:=hA.keep Ao;refine Jn ?_;refine dt 18 hX ?_;refine FK hs ?_;clear hs;intro b5 w5 BL z5 hs;have y5:w0.heap.size≤b5:=aC9 (AB.size hA.o) z5;replace hA:=hA.keep BL;refine Jn ?_;refine dt 20 hX ?_;have q5:=hs.get (b:=b5) AX;refine D2 hs ?_;clear hs;intro Mm E3 hs;replace hA:=hA.store E3 q5 rfl (by decide) (by decide) y5;refine Jn ?_;refine dt 21 hX ?_;have q6:=hs.get (b:=b6) AX;refine D2 hs ?_;clear hs;intro JI CT hs;replace hA:=hA.store CT q6 rfl (by decide) (by decide) y6;refine Jn ?_;refine tk 22 hX ?_;refine en ?_;have r3:=hs.get (b:=b3) AX;have r5:=hs.get (b:=b5) AX;have r6:=hs.get (b:=b6) AX;exact AQ (b5,b6,.slice ag rp.g.length cg,.slice ap rp.p.length cp,L') Ad ⟨r3,r5,r6,hA⟩
  ·skip
   refine FK hs ?_;clear hs;intro b5 w5 BL z5 hs;have y5:w0.heap.size≤b5:=aC9 (AB.size BD) z5;replace BD:=BD.trans BL;refine Jn ?_;refine HR 13 19 hX (h1:=?_) (h2:=?_)
   ·skip
    refine cl (h:=by exact JM e.cb e.c e.F xi _ (hC.only BD) QV) ?_;rintro v1 w2 ⟨rv,rfl,T⟩;have hf:=T.form;rw [hrp] at hf;obtain ⟨ag,cg,ap,cp,rfl⟩:=hf;obtain ⟨L',hA⟩:=CX (hO.only BD) he T BD;rw [hrp] at hA;replace hs:=hs.Dj T.2.2 (fun k hk=>by obtain rfl:=List.mem_singleton.1 hk;exact hs.Ec (BD.block hcb AA));refine Jn ?_;refine tks 14 4 ?_;refine dt 19 hX ?_;refine FK hs ?_;clear hs;intro b6 w6 Ao z6 hs;have y6:w0.heap.size≤b6:=aC9 (AB.size hA.o) z6;replace hA:=hA.keep Ao;refine Jn ?_;refine dt 20 hX ?_;have q5:=hs.get (b:=b5) AX;refine D2 hs ?_;clear hs;intro Mm E3 hs;replace hA:=hA.store E3 q5 rfl (by decide) (by decide) y5;refine Jn ?_;refine dt 21 hX ?_;have q6:=hs.get (b:=b6) AX;refine D2 hs ?_;clear hs;intro JI CT hs;replace hA:=hA.store CT q6 rfl (by decide) (by decide) y6;refine Jn ?_;refine tk 22 hX ?_;refine en ?_;have r3:=hs.get (b:=b3) AX;have r5:=hs.get (b:=b5) AX;have r6:=hs.get (b:=b6) AX;exact AQ (b5,b6,.slice ag rp.g.length cg,.slice ap rp.p.length cp,L') Ad ⟨r3,r5,r6,hA⟩
   ·skip
    refine FK hs ?_;clear hs;intro b6 w6 Ao z6 hs;have y6:w0.heap.size≤b6:=aC9 (AB.size BD) z6;replace BD:=BD.trans Ao;refine Jn ?_;refine dt 13 hX ?_;refine cl (h:=by exact JM e.cb e.c e.F xi _ (hC.only BD) QV) ?_;rintro v1 w2 ⟨rv,rfl,T⟩;have hf:=T.form;rw [hrp] at hf;obtain ⟨ag,cg,ap,cp,rfl⟩:=hf;obtain ⟨L',hA⟩:=CX (hO.only BD) he T BD;rw [hrp] at hA;replace hs:=hs.Dj T.2.2 (fun k hk=>by obtain rfl:=List.mem_singleton.1 hk;exact hs.Ec (BD.block hcb AA));refine Jn ?_;refine tks 14 4 ?_;refine dt 20 hX ?_;have q5:=hs.get (b:=b5) AX;refine D2 hs ?_;clear hs;intro Mm E3 hs;replace hA:=hA.store E3 q5 rfl (by decide) (by decide) y5;refine Jn ?_;refine dt 21 hX ?_;have q6:=hs.get (b:=b6) AX;refine D2 hs ?_;clear hs;intro JI CT hs;replace hA:=hA.store CT q6 rfl (by decide) (by decide) y6;refine Jn ?_;refine tk 22 hX ?_;refine en ?_;have r3:=hs.get (b:=b3) AX;have r5:=hs.get (b:=b5) AX;have r6:=hs.get (b:=b6) AX;exact AQ (b5,b6,.slice ag rp.g.length cg,.slice ap rp.p.length cp,L') Ad ⟨r3,r5,r6,hA⟩
  ·skip
   refine FK hs ?_;clear hs;intro b6 w6 Ao z6 hs;have y6:w0.heap.size≤b6:=aC9 (AB.size BD) z6;replace BD:=BD.trans Ao;refine Jn ?_;refine HR 13 18 hX (h1:=?_) (h2:=?_)
   ·skip
    refine cl (h:=by exact JM e.cb e.c e.F xi _ (hC.only BD) QV) ?_;rintro v1 w2 ⟨rv,rfl,T⟩;have hf:=T.form;rw [hrp] at hf;obtain ⟨ag,cg,ap,cp,rfl⟩:=hf;obtain ⟨L',hA⟩:=CX (hO.only BD) he T BD;rw [hrp] at hA;replace hs:=hs.Dj T.2.2 (fun k hk=>by obtain rfl:=List.mem_singleton.1 hk;exact hs.Ec (BD.block hcb AA));refine Jn ?_;refine tks 14 4 ?_;refine dt 18 hX ?_;refine FK hs ?_;clear hs;intro b5 w5 BL z5 hs;have y5:w0.heap.size≤b5:=aC9 (AB.size hA.o) z5;replace hA:=hA.keep BL;refine Jn ?_;refine dt 20 hX ?_;have q5:=hs.get (b:=b5) AX;refine D2 hs ?_;clear hs;intro Mm E3 hs;replace hA:=hA.store E3 q5 rfl (by decide) (by decide) y5;refine Jn ?_;refine dt 21 hX ?_;have q6:=hs.get (b:=b6) AX;refine D2 hs ?_;clear hs;intro JI CT hs;replace hA:=hA.store CT q6 rfl (by decide) (by decide) y6;refine Jn ?_;refine tk 22 hX ?_;refine en ?_;have r3:=hs.get (b:=b3) AX;have r5:=hs.get (b:=b5) AX;have r6:=hs.get (b:=b6) AX;exact AQ (b5,b6,.slice ag rp.g.length cg,.slice ap rp.p.length cp,L') Ad ⟨r3,r5,r6,hA⟩
   ·skip
    refine FK hs ?_;clear hs;intro b5 w5 BL z5 hs;have y5:w0.heap.size≤b5:=aC9 (AB.size BD) z5;replace BD:=BD.trans BL;refine Jn ?_;refine dt 13 hX ?_;refine cl (h:=by exact JM e.cb e.c e.F xi _ (hC.only BD) QV) ?_;rintro v1 w2 ⟨rv,rfl,T⟩;have hf:=T.form;rw [hrp] at hf;obtain ⟨ag,cg,ap,cp,rfl⟩:=hf;obtain ⟨L',hA⟩:=CX (hO.only BD) he T BD;rw [hrp] at hA;replace hs:=hs.Dj T.2.2 (fun k hk=>by obtain rfl:=List.mem_singleton.1 hk;exact hs.Ec (BD.block hcb AA));refine Jn ?_;refine tks 14 4 ?_;refine dt 20 hX ?_;have q5:=hs.get (b:=b5) AX;refine D2 hs ?_;clear hs;intro Mm E3 hs;replace hA:=hA.store E3 q5 rfl (by decide) (by decide) y5;refine Jn ?_;refine dt 21 hX ?_;have q6:=hs.get (b:=b6) AX;refine D2 hs ?_;clear hs;intro JI CT hs;replace hA:=hA.store CT q6 rfl (by decide) (by decide) y6;refine Jn ?_;refine tk 22 hX ?_;refine en ?_;have r3:=hs.get (b:=b3) AX;have r5:=hs.get (b:=b5) AX;have r6:=hs.get (b:=b6) AX;exact AQ (b5,b6,.slice ag rp.g.length cg,.slice ap rp.p.length cp,L') Ad ⟨r3,r5,r6,hA⟩
 ·rintro ⟨b5,b6,vg,vp,L'⟩ env w4 ⟨k3,k5,k6,hA⟩;simp only at k5 k6 hA;clear hs;have Ln:=hA.c.h;have hs:=((((St.nil w4).AF k3).AF k5).AF k6).AF Ln;have Xl:=hA.p;obtain ⟨_,_,_,_,EG,_,_⟩:=hA.p;cases EG;refine Ja ?_;have hoq:=hs.AD [] (by simp [k3,k5,k6,Ln]) sD;refine cl (h:=by exact GM hb _ _ n _ rp _ (hA.c.only hoq).at (Xl.Fi hoq AA) GZ (by show s.ev.length+rp.p.length+rp.g.length≤_;have:=hkn.1;have:=hkn.2;have e1:Rp.none.p.length=0:=rfl;have e2:Rp.none.g.length=0:=rfl;omega)) (k:=?_);rintro v5 w5 ⟨F5,Oo,jR,BL⟩;have Lp:=hoq.size;have Ob:=hA.o.size;have Zj:=hO.s.t.SP.2;have hAq:=hA.c.only hoq;have Oi:=BL.block (hoq.block k3 AA) (hAq.aAI (hoq.block k3 AA) om);have k5':=BL.block (hoq.block k5 AA) (hAq.at.not (hoq.block k5 AA) rfl);have EB:AB (CC hb sb tb rb L G Ge) w0 w5:=(hA.o.step hoq AA).step BL hA.f;have NC:=IV hA.f jR (show w0.heap.size≤_ by omega);have ecf:=(absorb_k ⟨BX s.s n (CU e.c (Az e.c xi).1 (Az e.c xi).2),s.ev⟩ n rp).2;obtain ⟨sb5,tb5,rb5,M8,ve5,L5,G5,Ge5,rfl,xS⟩:=Oo.FA;have wL:=xS.s.o;have o5h:=xS.h;have ok5:=xS.s.ok.cf;obtain ⟨s1,hs1⟩:=hR;have Hu:=ND hs1 xi;rw [show (BJ ⟨BX s.s n (CU e.c (Az e.c xi).1 (Az e.c xi).2),s.ev⟩ n rp).s.cf=s.s.cf from ecf] at wL ok5;clear hs;have hs:=(((St.nil w5).AF k5').AF Oi).AF o5h |>.AF wL
  refine Jb ?_;refine dr [] hs ?_;intro hX w hs;refine tks 0 10 ?_;refine dt 10 hX ?_;refine AZ hs (h:=by exact RJ s.s.cf (C2 e.c.A xi) Cd ok5 Hu hxs _) ?_;intro w' ho hs;refine Jn ?_;refine tk 11 hX ?_;refine en ?_;refine Jb ?_;refine AG ?_;have Ao:=hs.AD [] (by simp [k5',Oi,o5h,wL]) sD;exact ⟨rfl,_,Oo.only Ao,NC,EB.step Ao AA⟩
def KF (w0:World) (hb:Nat) (e:Int) (s:Ch) (F:List Nat) (w':World):Prop:=(e=0→∃ F',De w' hb s F'∧∀ k∈F',k∈F∨w0.heap.size≤k)∧AB F w0 w'
theorem S7 (cb:Nat) (c:Cs) (F:List Nat) (id q ns lag:Int) (w0:World) (h:Bh w0 cb c F) (hid:In64 id) (hq:Fb q) (Dd:BY ns) (Hu:In64 lag) :
 AO prog 93 #[.pointer (some ⟨cb,0,none⟩),.int .i64 id,.int .u32 q,.int .u64 ns,.int .i64 lag] w0 fun v w'=>∃ rv,v = .tuple #[rv,.int .i64 (Bn c id q ns lag).1]∧HS w0 cb F rv (Bn c id q ns lag).1 c (Bn c id q ns lag).2 .none w':=Qw cb c F id q ns lag w0 h hid hq Dd Hu
theorem CY.place {w:World} {hb sb tb rb:Nat} {v ve:Value} {s:Ch} {L:List Ce} {G Ge:List Nat} (hO:CY w hb sb tb rb v ve s L G Ge) {x:Tk} (hx:CP s.s.cf.cores x) (hn:x.st≠0):∃ (n:Nat) (e:Ce) (g cap:Nat) (cur:List Value),x.core=n∧n < s.s.k.length∧L[n]?=some e∧Bh w e.cb e.c e.F∧AK s.s n=e.c∧v = .slice (some ⟨g,0,none⟩) L.length cap∧w.heap[g]?=some (.cells cur.toArray T3 (0,0))∧cur[n]?=some (.pointer (some ⟨e.cb,0,none⟩))∧L.length=s.s.k.length∧Bw e.c∧∃ a r k,w.heap[e.cb]?=some (Ez a r k):=by
 obtain ⟨n,Fa,hlt⟩:=hO.s.ok.at hx hn;obtain ⟨e,he,hC,hce⟩:=hO.s.c.at hlt;obtain ⟨g,cap,cur,hv,hg,GI⟩:=hO.s.c.ptr he;obtain ⟨_,_,_,_,_,hcb,_⟩:=hC.FA;exact ⟨n,e,g,cap,cur,Fa,hlt,he,hC,hce.symm,hv,hg,GI,hO.s.c.len,hC.bS,_,_,_,hcb⟩
theorem ON (hb:Nat) (s:Ch) (F:List Nat) (x:Tk) (lag:Int) (w0:World) (h:De w0 hb s F) (hx:CP s.s.cf.cores x) (hn:x.st≠0) (Hu:In64 lag) (hl:s.ev.length≤1000000) :
 AO prog 56 #[.pointer (some ⟨hb,0,none⟩),KM x,.int .i64 lag] w0 fun v w'=>v = .int .i64 (FM s x lag).1∧KF w0 hb (FM s x lag).1 (FM s x lag).2 F w':=by
 obtain ⟨sb,tb,rb,v,ve,L,G,Ge,rfl,hO⟩:=h.FA;obtain ⟨n,e,g,cap,cur,Fa,hlt,he,hC,hce,rfl,hg,GI,WD,hR,_,_,_,hcb⟩:=hO.place hx hn;have QV:=hx.1;have hxw:=hx.2.2.2.1;have hxs:=hx.2.2.2.2.1;have eL:FM s x lag=if (Bn (AK s.s x.core) x.id x.w x.slice lag).1=0 then (0,BJ ⟨BX s.s x.core (CU (AK s.s x.core) (Bn (AK s.s x.core) x.id x.w x.slice lag).1 (Bn (AK s.s x.core) x.id x.w x.slice lag).2),s.ev⟩ x.core (BO (Bn (AK s.s x.core) x.id x.w x.slice lag).1 (Bn (AK s.s x.core) x.id x.w x.slice lag).2 .none)) else ((Bn (AK s.s x.core) x.id x.w x.slice lag).1,s):=rfl
 rw [Fa,hce] at eL;rw [eL];obtain ⟨xi,xt,xc,xw,Cd,xl⟩:=x;simp only at Fa QV hxs hxw;subst Fa;simp only;have hs:=(((St.nil w0).AF hg).AF hO.s.o).AF hO.h;refine AS func56 ntmps56 ?_;refine Ah ?_;refine Aq ?_;refine Gv hs ?_;clear hs;intro b3 w1 AL z1 hs;refine Jc ?_;have GZ:Cj (BO (Bn e.c xi xw Cd lag).1 (Bn e.c xi xw Cd lag).2 .none):=Cj.none.try (I5 hR xi xw Cd lag)
 have hkn:=HI (e:=(Bn e.c xi xw Cd lag).1) (r1 := .none) (I5 hR xi xw Cd lag);generalize hrp:BO (Bn e.c xi xw Cd lag).1 (Bn e.c xi xw Cd lag).2 .none=rp at GZ hkn
 refine B9 (fun (y:Nat × Value × Value × List Ce)=>[(0,.pointer (some ⟨hb,0,none⟩)),(4,.pointer (some ⟨b3,0,none⟩)),(7,.pointer (some ⟨y.1,0,none⟩)),(8,.int .i64 (Bn e.c xi xw Cd lag).1)])
  (fun y w=>w.heap[b3]?=some (Nf ⟨xi,xt,n,xw,Cd,xl⟩)∧w.heap[y.1]?=some (K7 y.2.1 y.2.2.1)∧Af w0 w hb sb tb rb (.slice (some ⟨g,0,none⟩) L.length cap) ve ⟨BX s.s n (CU e.c (Bn e.c xi xw Cd lag).1 (Bn e.c xi xw Cd lag).2),s.ev⟩ L y.2.2.2 G Ge (.agg #[y.2.1,y.2.2.1]) rp) ?_ ?_
 ·refine Hy [] hs ?_;clear hs;intro hX w CG hs;have BD:=AL.trans CG;refine tks 0 9 ?_;refine tk 9 hX (hr:=fun w' hH=>BA AJ rfl rfl rfl (by show (0:Int)≤(n:Int);omega) (by show (n:Int) < _;omega)) (k:=?_);refine tk 10 hX (hr:=fun w' hH=>r_load AJ rfl rfl (hH rfl) AX (by simpa using GI)) ?_;refine tks 11 7 ?_;refine HR 18 22 hX (h1:=?_) (h2:=?_)
  ·skip
   refine cl (h:=by exact S7 e.cb e.c e.F xi xw Cd lag _ (hC.only BD) QV hxw hxs Hu) ?_;rintro v1 w2 ⟨rv,rfl,T⟩;have hf:=T.form;rw [hrp] at hf;obtain ⟨ag,cg,ap,cp,rfl⟩:=hf;obtain ⟨L',hA⟩:=CX (hO.only BD) he T BD;rw [hrp] at hA;replace hs:=hs.Dj T.2.2 (fun k hk=>by obtain rfl:=List.mem_singleton.1 hk;exact hs.Ec (BD.block hcb AA));refine Jn ?_;refine tks 19 3 ?_;refine dt 22 hX ?_;refine FK hs ?_;clear hs;intro b6 w6 Ao z6 hs;have y6:w0.heap.size≤b6:=aC9 (AB.size hA.o) z6;replace hA:=hA.keep Ao;refine Jn ?_;refine dt 23 hX ?_;have q6:=hs.get (b:=b6) AX;refine D2 hs ?_;clear hs;intro JI CT hs;replace hA:=hA.store CT q6 rfl (by decide) (by decide) y6;refine Jn ?_;refine tk 24 hX ?_;refine en ?_;have r3:=hs.get (b:=b3) AX;have r6:=hs.get (b:=b6) AX;exact AQ (b6,.slice ag rp.g.length cg,.slice ap rp.p.length cp,L') Ad ⟨r3,r6,hA⟩
  ·skip
   refine FK hs ?_;clear hs;intro b6 w6 Ao z6 hs;have y6:w0.heap.size≤b6:=aC9 (AB.size BD) z6;replace BD:=BD.trans Ao;refine Jn ?_;refine dt 18 hX ?_;refine cl (h:=by exact S7 e.cb e.c e.F xi xw Cd lag _ (hC.only BD) QV hxw hxs Hu) ?_;rintro v1 w2 ⟨rv,rfl,T⟩;have hf:=T.form;rw [hrp] at hf;obtain ⟨ag,cg,ap,cp,rfl⟩:=hf;obtain ⟨L',hA⟩:=CX (hO.only BD) he T BD;rw [hrp] at hA;replace hs:=hs.Dj T.2.2 (fun k hk=>by obtain rfl:=List.mem_singleton.1 hk;exact hs.Ec (BD.block hcb AA));refine Jn ?_;refine tks 19 3 ?_;refine dt 23 hX ?_;have q6:=hs.get (b:=b6) AX;refine D2 hs ?_;clear hs;intro JI CT hs;replace hA:=hA.store CT q6 rfl (by decide) (by decide) y6;refine Jn ?_;refine tk 24 hX ?_;refine en ?_;have r3:=hs.get (b:=b3) AX;have r6:=hs.get (b:=b6) AX;exact AQ (b6,.slice ag rp.g.length cg,.slice ap rp.p.length cp,L') Ad ⟨r3,r6,hA⟩
 ·rintro ⟨b6,vg,vp,L'⟩ env w4 ⟨k3,k6,hA⟩;simp only at k6 hA;clear hs;have Ln:=hA.c.h;have hs:=(((St.nil w4).AF k3).AF k6).AF Ln;have Xl:=hA.p;obtain ⟨_,_,_,_,EG,_,_⟩:=hA.p;cases EG;generalize Bn e.c xi xw Cd lag=J at *;by_cases hJ:J.1=0
  ·rw [if_pos hJ];rw [hJ] at hA ⊢;refine Je ?_;have hoq:=hs.AD [] (by simp [k3,k6,Ln]) sD;refine cl (h:=by exact GM hb _ _ n _ rp _ (hA.c.only hoq).at (Xl.Fi hoq AA) GZ (by show s.ev.length+rp.p.length+rp.g.length≤_;have:=hkn.1;have:=hkn.2;have e1:Rp.none.p.length=0:=rfl;have e2:Rp.none.g.length=0:=rfl;omega)) (k:=?_);rintro v5 w5 ⟨F5,Oo,jR,BL⟩;have Ob:=hA.o.size;have EB:AB (CC hb sb tb rb L G Ge) w0 w5:=(hA.o.step hoq AA).step BL hA.f;have NC:=IV hA.f jR (show w0.heap.size≤_ by omega);clear hs;have hs:=St.nil w5;refine Ja ?_;refine AG ?_;have Ao:=hs.AE rfl;exact ⟨rfl,fun _=>⟨_,Oo.only Ao,NC⟩,EB.step Ao AA⟩
  ·rw [if_neg hJ]
   repeat' (first|refine Sa ?_|refine Aw rfl (fun hc=>?_) fun hc=>?_|fail)
   ·exact absurd (by simpa using hc) hJ
   ·refine AG ?_;have Ao:=hs.AD [] (by simp [k3,k6,Ln]) sD;exact ⟨rfl,fun q=>absurd q hJ,hA.o.step Ao AA⟩
theorem fE (L:List Ce) (e:Ce):ptrs (L ++ [e])=ptrs L ++ [.pointer (some ⟨e.cb,0,none⟩)]:=by simp [ptrs]
theorem iE (L:List Ce) (e:Ce):EP (L ++ [e])=EP L ++ e.F:=by simp [EP]
theorem CV.none (w:World):CV w (.slice none 0 0) [] [] []:=⟨.inl ⟨rfl,rfl,rfl,rfl⟩,rfl,fun x hx=>(by cases hx),fun i j x y hx=>(by simp at hx)⟩
theorem CV.lt {w:World} {v:Value} {l:List Cs} {L:List Ce} {G:List Nat} (h:CV w v l L G):∀ k∈G ++ EP L,k < w.heap.size:=fun k hk=>by
 rcases aC4.1 hk with q | q
 ·exact h.a.lt k q
 ·obtain ⟨x,hx,q⟩:=Dr.1 q;exact (h.c x hx).lt k q
theorem CV.ap {w:World} {v:Value} {l:List Cs} {L:List Ce} {G:List Nat} (h:CV w v l L G):∀ k∈EP L,k∉G:=fun k hk hm=>by
 obtain ⟨x,hx,q⟩:=Dr.1 hk;obtain ⟨cs,hc⟩:=L7 h.a k hm;exact (h.c x hx).not hc rfl q
structure E8 (w0 w:World) (sb tb rb:Nat) (cf:Cf) (t:List Tk) (l:List Cs) (v:Value) (L:List Ce) (G:List Nat):Prop where
 o:w.heap[sb]?=some (T7 tb cf v)
 t:DW w tb rb t
 c:CV w v l L G
 f:∀ k∈sb :: tb :: rb :: (G ++ EP L),w0.heap.size≤k
 w:AB [] w0 w
theorem E8.keep {w0 w w':World} {sb tb rb:Nat} {cf:Cf} {t:List Tk} {l:List Cs} {v:Value} {L:List Ce} {G:List Nat} (h:E8 w0 w sb tb rb cf t l v L G) (ho:AB [] w w'):E8 w0 w' sb tb rb cf t l v L G :=
 ⟨ho.block h.o AA,h.t.only ho,h.c.Ai ho AA,h.f,h.w.trans ho⟩
theorem E8.grow {w0 w w1 w2:World} {sb tb rb:Nat} {cf:Cf} {t:List Tk} {l:List Cs} {v v':Value} {L:List Ce} {G G':List Nat} (h:E8 w0 w sb tb rb cf t l v L G) {e:Ce} (hc:Bh w e.cb e.c e.F) (hd:∀ k∈e.F,k∉EP L) (hf:∀ k∈e.F,w0.heap.size≤k)
 (ha:B6 w1 T3 1 v' (L.length+1) (ptrs L ++ [.pointer (some ⟨e.cb,0,none⟩)]) G') (hG:∀ k∈G',k∈G∨w.heap.size≤k) (ho:AB G w w1) (AN:AB [sb] w1 w2) (hsb:w2.heap[sb]?=some (T7 tb cf v')):E8 w0 w2 sb tb rb cf t (l ++ [e.c]) v' (L ++ [e]) G':=by
 obtain ⟨cap,rest,a1,a2,_⟩:=h.t;have hz:=h.w.size;have n1:tb∉G:=fun hm=>BQ h.c.a a1 (by decide) hm;have n2:rb∉G:=fun hm=>BQ h.c.a a2 (by decide) hm;have n3:sb∉G:=fun hm=>BQ h.c.a h.o (by decide) hm;have o1:=ho.block h.o n3;have t1:=h.t.keep ho n1 n2;have m1:sb≠tb:=A3 h.o a1 (by decide);have m2:sb≠rb:=A3 h.o a2 (by decide);have wH:∀ x∈L,Bh w1 x.cb x.c x.F:=fun x hx=>(h.c.c x hx).Ai ho fun k hk=>h.c.ap k (Dr.2 ⟨x,hx,hk⟩)
 have hce:Bh w1 e.cb e.c e.F:=hc.Ai ho fun k hk hm=>by
  obtain ⟨cs,hcs⟩:=L7 h.c.a k hm;exact hc.not hcs rfl hk
 have hb:=lt_of_block h.o;refine ⟨hsb,t1.keep AN (by simpa using Ne.symm m1) (by simpa using Ne.symm m2),?_,fun k hk=>?_,(h.w.step ho fun k hk => .inr (h.f k (by simp [hk]))).step AN fun k hk => .inr (by obtain rfl:=List.mem_singleton.1 hk;exact h.f _ AA)⟩
 ·have nsb:∀ {x:Ce},Bh w1 x.cb x.c x.F→sb∉x.F:=fun {x} hx=>hx.not o1 rfl;have c1:CV w2 (.slice Option.none 0 0) l L []∨True := .inr trivial
  have base:CV w2 v' (l ++ [e.c]) (L ++ [e]) G':=by
   refine ⟨?_,by rw [aDa,h.c.l];rfl,fun x hx=>?_,fun i j x y hx hy hne k hk hm=>?_⟩
   ·rw [aCv,fE];exact ha.keep AN fun k hk hm=>by obtain rfl:=List.mem_singleton.1 hm;exact BQ ha o1 (by decide) hk
   ·have hx1:Bh w1 x.cb x.c x.F:=by
     rcases aC4.1 hx with q | q
     ·exact wH x q
     ·obtain rfl:=List.mem_singleton.1 q;exact hce
    exact hx1.Ai AN fun k hk hm=>by obtain rfl:=List.mem_singleton.1 hm;exact nsb hx1 hk
   ·rw [List.getElem?_append] at hx hy
    have one:∀ (a:Nat) (z:Ce),([e]:List Ce)[a]?=some z→a=0∧z=e:=fun a z hz=>by
     cases a with
     | zero=>cases hz;exact ⟨rfl,rfl⟩
     | succ a=>simp at hz
    split at hx
    ·split at hy
     ·exact h.c.d i j x y hx hy hne k hk hm
     ·obtain ⟨_,rfl⟩:=one _ _ hy;exact hd k hm (Dr.2 ⟨x,aDJ hx,hk⟩)
    ·obtain ⟨e1,rfl⟩:=one _ _ hx;split at hy
     ·exact hd k hk (Dr.2 ⟨y,aDJ hy,hm⟩)
     ·obtain ⟨e2,rfl⟩:=one _ _ hy;omega
  exact base
 ·have Z3:=h.f;simp only [aCu,aC4,iE] at hk Z3;rcases hk with rfl | rfl | rfl | hk | hk | hk
  ·exact Z3 _ (.inl rfl)
  ·exact Z3 _ (.inr (.inl rfl))
  ·exact Z3 _ (.inr (.inr (.inl rfl)))
  ·rcases hG k hk with q | q
   ·exact Z3 k (.inr (.inr (.inr (.inl q))))
   ·omega
  ·exact Z3 k (.inr (.inr (.inr (.inr hk))))
  ·exact hf k hk
theorem Yo (sb:Nat) (s:Sy) (F:List Nat) (w0:World) (h:C9 w0 sb s F):AO prog 14 #[.pointer (some ⟨sb,0,none⟩)] w0 fun v w'=>(∃ sb' F',v = .pointer (some ⟨sb',0,none⟩)∧C9 w' sb' s F'∧∀ k∈F',w0.heap.size≤k)∧AB [] w0 w':=by
 obtain ⟨tb,rb,vc,L,G,rfl,hO⟩:=h;have h1:=hO.o;have hs:=(St.nil w0).AF h1;have hlen:=hO.ok.len;have hlo:=hO.ok.lo;have hhi:=hO.ok.hi;have hL:=hO.c.len;have h0:0 < s.k.length:=by omega
 obtain ⟨x0,hx0,_,_⟩:=hO.c.at h0;obtain ⟨g,cap,cur,rfl,hg,_⟩:=hO.c.ptr hx0
 have GI:∀ (i:Nat) (x:Ce),L[i]?=some x→cur[i]?=some (.pointer (some ⟨x.cb,0,none⟩)):=fun i x hx=>by
  obtain ⟨g',cap',cur',e,hg',Mi⟩:=hO.c.ptr hx;cases e;rw [hg] at hg';simp only [aDd,Obj.cells.injEq] at hg';have:=congrArg Array.toList hg'.1;simp only at this;rw [this];exact Mi
 refine AS func14 ntmps14 ?_;refine Jd ?_;refine dr [] hs ?_;intro hX w hs;refine tks 0 4 ?_;refine tks 5 4 ?_;refine dt 4 hX ?_;have OA:=hs.AD [] (by simp [h1]) sD;refine cl (h:=by exact aZ tb rb s.t _ (hO.t.only OA)) ?_;rintro v w1 ⟨⟨E5,rb',rfl,Bo,n1,n2,n3⟩,AL⟩;replace hs:=hs.AP AL;have J0:=OA.size;have kq:=hs.get (b:=sb) (o:=T7 tb s.cf (.slice (some ⟨g,0,none⟩) L.length cap)) AX;have BF:=hs.AD [] (by simp [h1]) sD;have kP:=BF.size;clear hs;have hs:=(St.nil w1).AF kq;refine Jn ?_;refine tk 9 hX ?_;refine dt 10 hX ?_;refine bx hs ?_;clear hs;intro sb' w2 Mz hs;refine XS.nil ?_;have gsb:=hs.new _ aCw rfl;simp only at gsb;refine dn ?_;refine tk 11 hX ?_;refine en ?_;refine Ja ?_;have Bd:=hs.AD [] (by simp [kq]) sD
 have zV:E8 w0 _ sb' E5 rb' s.cf s.t [] (.slice none 0 0) [] []:=⟨hs.get (b:=sb') AX,Bo.only Bd,CV.none _,fun k hk=>by
  simp only [aCu,aDV,show EP []=[] from rfl,aC1,or_false] at hk;rcases hk with rfl | rfl | rfl <;> omega,BF.trans Bd⟩
 refine BM (fun (_:Value × List Ce × List Nat)=>[(3,.pointer (some ⟨sb',0,none⟩))]) (fun y w=>E8 w0 w sb' E5 rb' s.cf s.t s.k y.1 y.2.1 y.2.2) ?_ ?_
 ·refine BH (fun (x:Nat × Value × List Ce × List Nat)=>[(3,.pointer (some ⟨sb',0,none⟩)),(22,.slice (some ⟨g,0,none⟩) L.length cap),(23,.int .i64 (L.length:Nat)),(24,.int .i64 (x.1:Nat))])
   (fun x w=>x.1≤L.length∧E8 w0 w sb' E5 rb' s.cf s.t (s.k.take x.1) x.2.1 x.2.2.1 x.2.2.2) (fun x=>L.length - x.1) (0,.slice none 0 0,[],[]) Ad ⟨aC7 _,zV⟩ fun x env wl ⟨hi,hM⟩=>?_
  obtain ⟨i,v5,L5,G5⟩:=x;simp only at hi hM;clear hs;have gX:=hM.w.block hg AA;have hs:=((St.nil wl).AF gX).AF hM.o
  repeat' (first|refine Sa ?_|refine Aw rfl (fun hc=>?_) fun hc=>?_|fail)
  ·have hlt:i < L.length:=by omega
   have Qg:i < s.k.length:=by omega
   obtain ⟨x,hx,hC,hce⟩:=hO.c.at Qg;have ei:=DP (m:=L.length) hlt om
   have et:s.k.take (i+1)=s.k.take i ++ [x.c]:=by
    rw [CH Qg,hce,aDI,aC3 Qg];rfl
   have yS:=hM.c.len;rw [aDg] at yS;refine ix (h0:=(by omega)) (h1:=(by omega)) ?_;refine lb (hc:=(by simpa using GI i x hx)) ?_;refine Jc ?_;refine dr [11] hs ?_;intro hX w hs;refine tks 0 6 ?_;refine dt 6 hX ?_;have BD:=hs.AD [] (by simp [gX,hM.o]) sD;refine cl (h:=by exact Rh x.cb x.c x.F _ (hC.only (hM.w.trans BD))) ?_;rintro v6 w6 ⟨⟨Sz,F6,rfl,fI,WT⟩,Ao⟩;replace hs:=hs.AP Ao;have Q7:=hM.keep (hs.AD [] (by simp [gX,hM.o]) sD);have jX:=(hM.w.trans BD).size;have Ww:=hM.c.lt;have JJ:=BD.size;have lN:=Q7.o;have y9:=Q7.w.block hg AA;clear hs;have hs:=((St.nil w6).AF y9).AF lN;refine Jn ?_;refine dt 7 hX ?_;refine bs hs ?_;clear hs;intro b7 w7 ZC hs;refine Jn ?_;refine dt 8 hX ?_;have C8:=hs.AD [] (by simp [lN,y9]) sD;have PN:=Q7.keep C8;have aB3:=C8.size;refine CF AJ rfl rfl rfl rfl rfl rfl rfl (by decide) (lit_cells (news:=[.pointer (some ⟨Sz,0,none⟩)]) (hs.get At.head)) (by simp [Value.oneCell']) PN.c.a om om ?_;intro v8 w8 ⟨G8,iH,oP⟩ E9;obtain ⟨a8,xN,rfl⟩:=BU iH;have k8:=E9.block (hs.get (b:=sb') (o:=T7 E5 s.cf v5) AX) (fun hm=>BQ PN.c.a PN.o (by decide) hm)
   have kg8:=E9.block (C8.block y9 AA) (fun hm=>by
    have:=PN.f g (by simp [hm]);have:=lt_of_block hg;omega)
   clear hs;have hs:=((St.nil w8).AF kg8).AF k8;refine Jn ?_;refine tks 9 2 ?_;refine dt 11 hX ?_;refine st hs ?_;clear hs;intro w9 hs;refine Jn ?_;refine en ?_;refine Ja ?_
   have hG:E8 w0 _ sb' E5 rb' s.cf s.t (s.k.take i ++ [x.c]) _ (L5 ++ [⟨Sz,x.c,F6⟩]) G8 :=
    PN.grow (e:=⟨Sz,x.c,F6⟩) (fI.only C8) (fun k hk hm=>by
     have:=WT k hk;have:=Ww k (aDE _ hm);omega) (fun k hk=>by have:=WT k hk;omega) iH oP E9 (hs.AD [sb'] (by simp [kg8]) sD) (hs.get (b:=sb') AX)
   refine A2 (i+1,.slice a8 (L5.length+1) xN,L5 ++ [⟨Sz,x.c,F6⟩],G8) (by show L.length - (i+1) < L.length - i;omega) (by (repeat (first | exact Ag | (apply A8;first | exact rfl | exact congrArg (Value.int .i64) ei)))) ⟨by show i+1≤_;omega,?_⟩;show E8 w0 _ sb' E5 rb' s.cf s.t (s.k.take (i+1)) _ _ G8;rw [et];exact hG
  ·have e:i=s.k.length:=by omega
   subst e;rw [aDK] at hM;exact Au (v5,L5,G5) Ad hM
 ·rintro ⟨v5,L5,G5⟩ env w hM;simp only at hM;clear hs;have hs:=St.nil w;refine Ja ?_;refine AG ?_;have hM2:=hM.keep (hs.AE rfl);exact ⟨⟨sb',_,rfl,⟨E5,rb',v5,L5,G5,rfl,hM2.o,hM2.t,hM2.c,hO.ok⟩,hM2.f⟩,hM2.w⟩
theorem Tu (c:Cf) (hc0:c.In) (w0:World):AO prog 9 #[Q2 c] w0 fun v w'=>((FH c≠0∧v = .tuple #[.pointer none,.int .i64 (FH c)])∨(FH c=0∧∃ sb F,v = .tuple #[.pointer (some ⟨sb,0,none⟩),.int .i64 0]∧C9 w' sb (IS c) F∧∀ k∈F,w0.heap.size≤k))∧AB [] w0 w':=by
 have hs:=St.nil w0;refine AS func9 ntmps9 ?_;refine Ah ?_;refine Aq ?_;refine bx hs ?_;clear hs;intro b1 w1 J0 hs;refine Ja ?_;refine cl (h:=by exact Ul c hc0 _) ?_;by_cases e0:FH c=0
 ·have hck:=Xd e0;have aBJ:=(inv_new hc0 e0).ok;rw [e0];rintro v w' ⟨rfl,ho⟩;replace hs:=hs.AP ho;refine Jd ?_;have g1:=hs.new (b1,true) AA rfl;simp only at g1;refine dr [] hs ?_;intro hX w hs;refine tks 0 2 ?_;refine tk 3 hX ?_;refine dt 2 hX ?_;have OA:=hs.AE rfl;refine cl (h:=by exact VO c.tasks _) ?_;rintro v w2 ⟨⟨E5,rb',rfl,Bo,n1,n2,n3⟩,AL⟩;replace hs:=hs.AP AL;have J0:=OA.size;have kq:=hs.get (b:=b1) AX;have BF:=hs.AE rfl;have kP:=BF.size;clear hs;have hs:=(St.nil w2).AF kq;refine Jn ?_;refine tk 4 hX ?_;refine dt 5 hX ?_;refine bx hs ?_;clear hs;intro sb' w3 Nz hs;refine XS.nil ?_;have gsb:=hs.new _ aCw rfl;simp only at gsb;refine dn ?_;refine tk 6 hX ?_;refine en ?_;refine Ja ?_;have Bd:=hs.AD [] (by simp [kq]) sD;have kc:=hs.get (b:=b1) AX
  have zV:E8 w0 _ sb' E5 rb' c (List.replicate (Ey c.tasks) .zero) [] (.slice none 0 0) [] []:=⟨hs.get (b:=sb') AX,Bo.only Bd,CV.none _,fun k hk=>by
   simp only [aCu,aDV,show EP []=[] from rfl,aC1,or_false] at hk;rcases hk with rfl | rfl | rfl <;> omega,BF.trans Bd⟩
  obtain ⟨m,hm⟩:∃ m:Nat,c.cores=m:=⟨c.cores.toNat,by omega⟩;rw [hm];refine BM (fun (_:Value × List Ce × List Nat)=>[(5,.pointer (some ⟨sb',0,none⟩))]) (fun y w=>E8 w0 w sb' E5 rb' c (List.replicate (Ey c.tasks) .zero) (List.replicate m (EY c.origin)) y.1 y.2.1 y.2.2) ?_ ?_
  ·refine BH (fun (x:Nat × Value × List Ce × List Nat)=>[(1,.pointer (some ⟨b1,0,none⟩)),(5,.pointer (some ⟨sb',0,none⟩)),(18,.int .i64 (m:Nat)),(19,.int .i64 (x.1:Nat))])
    (fun x w=>x.1≤m∧w.heap[b1]?=some (.cells #[.int .i64 c.cores,.int .i64 c.tasks,.int .u64 c.tick,.int .u64 c.slice,.int .u64 c.origin] 24 (0,0))∧E8 w0 w sb' E5 rb' c (List.replicate (Ey c.tasks) .zero) (List.replicate x.1 (EY c.origin)) x.2.1 x.2.2.1 x.2.2.2) (fun x=>m - x.1) (0,.slice none 0 0,[],[]) Ad ⟨aC7 _,kc,zV⟩ fun x env wl ⟨hi,hB,hM⟩=>?_
   obtain ⟨i,v5,L5,G5⟩:=x;simp only at hi hM;clear hs;have hs:=((St.nil wl).AF hB).AF hM.o
   repeat' (first|refine Sa ?_|refine Aw rfl (fun hc=>?_) fun hc=>?_|fail)
   ·have hlt:i < m:=by omega
    have ei:=DP (m:=m) hlt om;have yS:=hM.c.len;rw [aD7] at yS;refine dr [12] hs ?_;intro hX w hs;refine tks 0 7 ?_;refine dt 7 hX ?_;have BD:=hs.AD [] (by simp [hB,hM.o]) sD;refine cl (h:=by exact V9 c.origin hc0.2.2.2.2 _) ?_;rintro v6 w6 ⟨⟨Sz,F6,rfl,fI,WT⟩,Ao⟩;replace hs:=hs.AP Ao;have Q7:=hM.keep (hs.AD [] (by simp [hB,hM.o]) sD);have jX:=(hM.w.trans BD).size;have Ww:=hM.c.lt;have JJ:=BD.size;have lN:=Q7.o;have kB:=hs.get (b:=b1) AX;clear hs;have hs:=((St.nil w6).AF kB).AF lN;refine Jn ?_;refine dt 8 hX ?_;refine bs hs ?_;clear hs;intro b7 w7 ZC hs;refine Jn ?_;refine dt 9 hX ?_;have C8:=hs.AD [] (by simp [lN,kB]) sD;have PN:=Q7.keep C8;have aB3:=C8.size;refine CF AJ rfl rfl rfl rfl rfl rfl rfl (by decide) (lit_cells (news:=[.pointer (some ⟨Sz,0,none⟩)]) (hs.get At.head)) (by simp [Value.oneCell']) PN.c.a om om ?_;intro v8 w8 ⟨G8,iH,oP⟩ E9;obtain ⟨a8,xN,rfl⟩:=BU iH;have k8:=E9.block (hs.get (b:=sb') (o:=T7 E5 c v5) AX) (fun hm=>BQ PN.c.a PN.o (by decide) hm);have k9:=E9.block (hs.get (b:=b1) AX) (fun hm=>BQ PN.c.a (hs.get (b:=b1) AX) (by decide) hm);clear hs;have hs:=((St.nil w8).AF k9).AF k8;refine Jn ?_;refine tks 10 2 ?_;refine dt 12 hX ?_;refine st hs ?_;clear hs;intro w9 hs;refine Jn ?_;refine en ?_;refine Ja ?_
    have hG:E8 w0 _ sb' E5 rb' c (List.replicate (Ey c.tasks) .zero) (List.replicate i (EY c.origin) ++ [EY c.origin]) _ (L5 ++ [⟨Sz,EY c.origin,F6⟩]) G8 :=
     PN.grow (e:=⟨Sz,EY c.origin,F6⟩) (fI.only C8) (fun k hk hm=>by
      have:=WT k hk;have:=Ww k (aDE _ hm);omega) (fun k hk=>by have:=WT k hk;omega) iH oP E9 (hs.AD [sb'] (by simp [k9]) sD) (hs.get (b:=sb') AX)
    refine A2 (i+1,.slice a8 (L5.length+1) xN,L5 ++ [⟨Sz,EY c.origin,F6⟩],G8) (by show m - (i+1) < m - i;omega) (by (repeat (first | exact Ag | (apply A8;first | exact rfl | exact congrArg (Value.int .i64) ei)))) ⟨by show i+1≤_;omega,hs.get (b:=b1) AX,?_⟩;show E8 w0 _ sb' E5 rb' c _ (List.replicate (i+1) (EY c.origin)) _ _ G8;rw [List.replicate_succ'];exact hG
   ·have e:i=m:=by omega
    subst e;exact Au (v5,L5,G5) Ad hM
  ·rintro ⟨v5,L5,G5⟩ env w hM;simp only at hM;clear hs;have hs:=St.nil w;refine Ja ?_;refine AG ?_;have hM2:=hM.keep (hs.AE rfl);have em:c.cores.toNat=m:=by omega
   exact ⟨.inr ⟨rfl,sb',_,rfl,⟨E5,rb',v5,L5,G5,rfl,hM2.o,hM2.t,by
    show CV _ v5 (List.replicate c.cores.toNat (EY c.origin)) L5 G5;rw [em];exact hM2.c,aBJ⟩,hM2.f⟩,hM2.w⟩
 ·generalize FH c=e at *
  rintro v w' ⟨rfl,ho⟩;replace hs:=hs.AP ho;repeat' (first|refine Sa ?_|refine xc_cond rfl (fun hc=>?_) fun hc=>?_|fail)
  ·refine AG ?_;exact ⟨.inl ⟨e0,rfl⟩,hs.AE rfl⟩
  ·exact absurd (by simpa using hc) e0
def q8 (w0 w:World) (fid:Nat) (caps:List Value) (E:List Nat) (Qx:World→Prop) (s:Sy) (l:Int × Ch):Prop :=
 ∀ hb F,De w hb ⟨s,[]⟩ F→(∀ k∈F,w0.heap.size≤k) →
  AO prog fid (.pointer (some ⟨hb,0,none⟩) :: caps).toArray w fun v w'=>v = .int .i64 l.1∧Qx w'∧(l.1=0→∃ F',De w' hb l.2 F'∧∀ k∈F',k∈F∨w.heap.size≤k)∧AB (F ++ E) w w'
def EN (w0:World) (sb:Nat) (F E:List Nat) (ve:Value) (s:Sy) (l:Int × Ch) (w':World):Prop :=
 (∃ G,ZI w' ve (Dt s l).1 G)∧(∃ F',C9 w' sb (Dt s l).2 F'∧∀ k∈F',k∈F∨w0.heap.size≤k)∧AB (sb :: E) w0 w'
theorem Rg (sb:Nat) (s:Sy) (F:List Nat) (w0:World) (h:C9 w0 sb s F) (fid:Nat) (caps:List Value) (E:List Nat) (Qx:World→Prop) (l:Int × Ch)
 (hQ:∀ w w' G,Qx w→AB G w w'→(∀ k∈E,k∉G)→Qx w') (hE:∀ k∈E,k∉F∧k < w0.heap.size) (Ri:∀ w,AB [] w0 w→q8 w0 w fid caps E Qx s l) :
 AO prog 50 #[.pointer (some ⟨sb,0,none⟩),.func (.func fid) #[] caps.toArray] w0 fun v w'=>∃ ve,v = .tuple #[ve,.int .i64 l.1]∧Qx w'∧EN w0 sb F E ve s l w':=by
 have hS:=h;obtain ⟨tb,rb,vc,L,G,rfl,hO⟩:=h;have h1:=hO.o;have lsb:=lt_of_block h1;have hs:=(St.nil w0).AF h1;refine AS func50 ntmps50 ?_;refine Jd ?_;have ho:=hs.AD [] (by simp [h1]) sD;refine cl (h:=by exact Yo sb s _ _ (hS.only ho)) ?_;rintro v w1 ⟨⟨sb',F',rfl,GB,C0⟩,AL⟩;replace hs:=hs.AP AL;have BF:=hs.AD [] (by simp [h1]) sD;have k1:=hs.get At.head;have zA:=ho.size;clear hs;have hs:=(St.nil w1).AF k1;refine vs ?_;refine Gv hs ?_;clear hs;intro hb w2 AN z2 hs;refine Ja ?_;have AU:=hs.AD [] (fun e he => .inr (.inr (hs.hold e he))) sD;have kh:=hs.get (b:=hb) AX;have E7:=GB.only AN;have lH:De w2 hb ⟨s,[]⟩ (hb :: (F' ++ [])):=⟨sb',F',_,[],rfl,kh,E7,.inl ⟨rfl,rfl,rfl,rfl⟩⟩;have zB:=BF.size;have zC:=AN.size
 have Dx:∀ k∈hb :: (F' ++ []),w0.heap.size≤k:=fun k hk=>by
  simp only [aDP,aCu] at hk;rcases hk with rfl | hk
  ·omega
  ·have:=C0 k hk;omega
 have Bd:=BF.trans AN;refine cl (h:=by exact Ri _ Bd hb _ lH Dx) ?_;rintro v w3 ⟨rfl,hX,hres,Ar⟩
 have m1:sb∉(hb :: (F' ++ [])) ++ E:=fun hm=>by
  rcases aC4.1 hm with q | q
  ·have:=Dx sb q;omega
  ·exact (hE sb q).1 AA
 have j1:=Ar.block (hs.get (b:=sb) AX) m1
 have EM:AB (sb :: E) w0 w3:=((Bd.weaken AA).step Ar (fun k hk=>by
  rcases aC4.1 hk with q | q
  ·exact .inr (Dx k q)
  ·exact .inl (by simp [q])))
 have zD:=EM.size;clear hs;have wI:Dt s l=if l.1=0 then (l.2.ev,l.2.s) else ([],s):=rfl
 obtain ⟨tr,htr⟩:∃ tr,tr=Dt s l:=⟨_,rfl⟩;rw [← htr] at wI;generalize l.2=s1 at *;generalize l.1=e at *;have T0:∀ (ve:Value) (w':World),EN w0 sb (sb :: tb :: rb :: (G ++ EP L)) E ve s l w'=((∃ G,ZI w' ve (Dt s l).1 G)∧(∃ F',C9 w' sb (Dt s l).2 F'∧∀ k∈F',k∈(sb :: tb :: rb :: (G ++ EP L))∨w0.heap.size≤k)∧AB (sb :: E) w0 w'):=fun _ _=>rfl;simp only [T0];by_cases he:e=0
 ·subst he;obtain ⟨F3,V5,Md⟩:=hres rfl
  have oR:∀ k∈F3,w0.heap.size≤k:=fun k hk=>by
   rcases Md k hk with q | q
   ·exact Dx k q
   ·have:=Bd.size;omega
  obtain ⟨sb3,iZ,gL,v3,ve3,L3,G3,Ge3,rfl,HG⟩:=V5.FA;have o3h:=HG.h;have zN:=HG.s.o;have n3:sb3≠sb:=by have:=oR sb3 (by simp [CC]);omega
  obtain ⟨ae,ce,rfl⟩:=BU HG.e;obtain ⟨a3,c3,rfl⟩:=BU HG.s.c.a;have o3h:=HG.h;have zN:=HG.s.o;have hs:=(((St.nil w3).AF j1).AH zN (by simpa using n3)).AF o3h
  repeat' (first|refine Sd ?_|(refine AV hs ?_;intro w hs)|fail)
  refine AG ?_;have Ao:AB [sb] w3 _:=hs.AD [sb] (by simp [zN,o3h]) sD
  have hd:∀ k∈CC hb sb3 iZ gL L3 G3 Ge3,k∉[sb]:=fun k hk hm=>by
   obtain rfl:=List.mem_singleton.1 hm;have:=oR _ hk;omega
  have et:Dt s l=(s1.ev,s1.s):=by rw [← htr,wI];exact if_pos rfl
  have rH:∀ k∈sb :: iZ :: gL :: (G3 ++ EP L3),k∈sb :: tb :: rb :: (G ++ EP L)∨w0.heap.size≤k:=fun k hk=>by
   rcases aCu.1 hk with rfl | hk
   ·exact .inl AA
   ·exact .inr (oR k (by simp only [CC,aCu,aC4] at hk ⊢;exact .inr (.inl (.inr hk))))
  have KV:=HG.s;refine ⟨_,rfl,hQ _ _ _ hX Ao (fun k hk hm=>by obtain rfl:=List.mem_singleton.1 hm;exact (hE _ hk).1 AA),?_,?_,EM.step Ao (fun k hk => .inl (by obtain rfl:=List.mem_singleton.1 hk;simp))⟩
  ·rw [et];exact ⟨Ge3,HG.e.keep Ao (fun k hk=>hd k (by simp [CC,hk]))⟩
  ·rw [et];exact ⟨_,⟨iZ,gL,_,L3,G3,rfl,hs.get (b:=sb) AX,KV.t.keep Ao (hd _ (by simp [CC])) (hd _ (by simp [CC])),KV.c.Ai Ao (fun k hk=>hd k (by simp only [CC,aCu,aC4] at hk ⊢;exact .inr (.inl (.inr (.inr (.inr hk)))))),KV.ok⟩,rH⟩
 ·have hs:=(St.nil w3).AF j1;have et:Dt s l=([],s):=by rw [← htr,wI];exact if_neg he
  repeat' (first|refine Sa ?_|refine xc_cond rfl (fun hc=>?_) fun hc=>?_|fail)
  ·refine AG ?_;have Ao:=hs.AD [] (by simp [j1]) sD;refine ⟨_,rfl,hQ _ _ _ hX Ao AA,?_,?_,EM.step Ao AA⟩
   ·rw [et];exact ⟨[],.inl ⟨rfl,rfl,rfl,rfl⟩⟩
   ·rw [et];refine ⟨_,((hS.only Bd).Ai Ar (fun k hk hm=>?_)).only Ao,fun k hk => .inl hk⟩;rcases aC4.1 hm with q | q
    ·have:=Dx k q;have:=hS.lt k hk;omega
    ·exact (hE k q).1 hk
  ·exact absurd (by simpa using hc) he
def Pu (w:World) (E:List Nat) (fid:Nat) (caps:List Value) (Qx:World→Prop) (f:Ch→Tk→Int × Ch) (s:Sy) (id:Int):Prop :=
 ∀ hb F,De w hb ⟨s,[]⟩ F→(∀ k∈F,k∉E)→Df (BK s.t id)=0 →
  AO prog fid (.pointer (some ⟨hb,0,none⟩) :: KM (Ay s.t id) :: caps).toArray w fun v w'=>v = .int .i64 (f ⟨s,[]⟩ (Ay s.t id)).1∧KF w hb (f ⟨s,[]⟩ (Ay s.t id)).1 (f ⟨s,[]⟩ (Ay s.t id)).2 F w'
theorem kU (b1 b2:Nat) (id:Int) (fid:Nat) (caps:List Value) (s:Sy) (fu:Ch→Tk→Int × Ch) (wb w0:World) (hid:In64 id) (hw0:AB [] wb w0) (B1:wb.heap[b1]?=some (.cells #[.int .i64 id] 3 (0,0))) (B2:wb.heap[b2]?=some (.cells #[.func (.func fid) #[] caps.toArray] 139 (0,0)))
 (Ri:∀ w,AB [] wb w→Pu w (List.range wb.heap.size) fid caps (fun _=>True) fu s id) :
 q8 wb w0 99 [.pointer (some ⟨b1,0,none⟩),.pointer (some ⟨b2,0,none⟩)] [] (fun _=>True) s (By ⟨s,[]⟩ id fu):=by
 intro hb F hC hF;have FB:=hC;obtain ⟨sb,tb,rb,v,ve,L,G,Ge,rfl,hO⟩:=hC.FA;have oh:=hO.h;have os:=hO.s.o;have sF:=hw0.block B1 AA;have qN:=hw0.block B2 AA;have eW:By ⟨s,[]⟩ id fu=if Df (BK s.t id)≠0 then (Df (BK s.t id),⟨s,[]⟩) else fu ⟨s,[]⟩ (Ay s.t id):=rfl
 rw [eW];generalize hq:Ay s.t id=q;have hs:=((((St.nil w0).AF os).AF oh).AF sF).AF qN;refine AS func99 ntmps99 ?_;refine Ja ?_;refine dr [] hs ?_;intro hX w hs;refine tks 0 8 ?_;refine Gq 12 5 hs ?_;intro f X w hp;have hs:=hp.st;apply BI 8 12 (f:=f) (X:=X) hX hp;exact rfl;exact rfl;(apply AT AJ;exact rfl);kernel_rfl;kernel_rfl;kernel_rfl;kernel_rfl;(intro X Y;(repeat (first | exact A4 | refine A5 ?_ (by exact rfl))));(intro w' hs;first|exact AI hs.hold|exact AI hs.hold.tail|exact Ab rfl);intro f X w hp;have hs:=hp.st;have ho:=hs.AD [] (by simp [oh,os,sF,qN]) sD;refine cl (h:=by exact OM tb rb s.t id _ (hO.s.t.only ho) hid) ?_;rw [hq];rintro v w' ⟨rfl,ho⟩;replace hp:=hp.only ho;replace hs:=hp.st;refine Jn ?_;refine tk 9 hX (hc:=by cases f <;> kernel_rfl) (k:=?_);refine tk 10 hX (hc:=by cases f <;> kernel_rfl) (k:=?_);refine tk 11 hX (hc:=by cases f <;> kernel_rfl) (k:=?_);apply Bb 12 (f:=f) (X:=X) hX hp;exact rfl;(apply AT AJ;exact rfl);kernel_rfl;kernel_rfl;(intro X Y;(repeat (first | exact A4 | refine A5 ?_ (by exact rfl))));(intro w' hs;first|exact AI hs.hold|exact AI hs.hold.tail|exact Ab rfl);intro b w hI hs;refine dt 13 hX ?_
 repeat' (first|refine Nx.h ?_|(refine AV hs ?_;intro w hs)|fail)
 refine dn ?_;refine tk 14 hX ?_;refine en ?_;by_cases he:Df (BK s.t id)=0
 ·rw [he,if_neg AA];refine Jd ?_;have hoq:=hs.AD [] (by simp [oh,os,sF,qN]) sD;have:=Ri _ (hw0.trans hoq) hb _ (FB.only hoq) (fun k hk hm=>by have:=hF k hk;have:=List.mem_range.1 hm;omega) he;rw [hq] at this;refine cl (h:=by exact this) ?_;rintro v5 w5 ⟨rfl,hL,BL⟩;have hz:=hoq.size;clear hs;have hs:=St.nil w5;refine Jc ?_;refine AG ?_;have Ao:=hs.AE rfl;refine ⟨rfl,trivial,fun e0=>?_,((hoq.weaken AA).step BL (fun k hk => .inl (by simpa using hk))).step Ao AA⟩;obtain ⟨F',h1,h2⟩:=hL e0
  exact ⟨F',h1.only Ao,fun k hk=>by
   rcases h2 k hk with q | q
   ·exact .inl q
   ·exact .inr om⟩
 ·rw [if_pos he];generalize Df (BK s.t id)=e at *
  repeat' (first|refine Sa ?_|refine xc_cond rfl (fun hc=>?_) fun hc=>?_|fail)
  ·refine AG ?_;have Ao:=hs.AD [] (by simp [oh,os,sF,qN]) sD;exact ⟨rfl,trivial,fun z=>absurd z he,Ao.weaken AA⟩
  ·exact absurd (by simpa using hc) he
theorem Ie (sb:Nat) (s:Sy) (F:List Nat) (id:Int) (fid:Nat) (caps:List Value) (f:Ch→Tk→Int × Ch) (w0:World) (h:C9 w0 sb s F) (hid:In64 id)
 (Ri:∀ wb w,AB [] w0 wb→AB [] wb w→Pu w (List.range wb.heap.size) fid caps (fun _=>True) f s id) :
 AO prog 64 #[.pointer (some ⟨sb,0,none⟩),.int .i64 id,.func (.func fid) #[] caps.toArray] w0 fun v w'=>∃ ve,v = .tuple #[ve,.int .i64 (By ⟨s,[]⟩ id f).1]∧EN w0 sb F [] ve s (By ⟨s,[]⟩ id f) w':=by
 have hs:=St.nil w0;refine AS func64 ntmps64 ?_;refine Ah ?_;refine Aq ?_;refine Gv hs ?_;clear hs;intro b4 w1 AL z1 hs;refine Gv hs ?_;clear hs;intro b5 w2 AN z2 hs;refine Ja ?_;have BF:=AL.trans AN;have k4:=hs.get (b:=b4) AX;have k5:=hs.get (b:=b5) AX;refine cl (h:=by exact Rg sb s F _ (h.only BF) 99 [.pointer (some ⟨b4,0,none⟩),.pointer (some ⟨b5,0,none⟩)] [] (fun _=>True) (By ⟨s,[]⟩ id f) (fun _ _ _ _ _ _=>trivial) AA (fun w hw=>kU b4 b5 id fid caps s f _ w hid hw k4 k5 (fun w' hw'=>Ri _ w' BF hw'))) ?_;rintro v w3 ⟨ve,rfl,_,⟨Gt,rB⟩,⟨F',hS',C0⟩,AU⟩;obtain ⟨ae,ce,rfl⟩:=BU rB;have zA:=BF.size;clear hs;have hs:=St.nil w3;refine Jc ?_;refine AG ?_;have Ar:=hs.AE rfl
 exact ⟨_,rfl,⟨Gt,rB.keep Ar AA⟩,⟨F',hS'.only Ar,fun k hk=>by
  rcases C0 k hk with q | q
  ·exact .inl q
  ·exact .inr om⟩,((BF.weaken AA).step AU (fun k hk => .inl hk)).step Ar AA⟩
theorem CY.JD {w w':World} {hb sb tb rb:Nat} {v ve:Value} {s:Ch} {L:List Ce} {G Ge:List Nat} (h:CY w hb sb tb rb v ve s L G Ge) {t:List Tk} (ht:DW w' tb rb t) (ho:AB [rb] w w') (hok:EE { s.s with t:=t }):CY w' hb sb tb rb v ve ⟨{ s.s with t:=t },s.ev⟩ L G Ge:=by
 obtain ⟨cap,rest,a1,a2,_⟩:=h.s.t;exact ⟨ho.block h.h (by simpa using A3 h.h a2 (by decide)),h.s.rows ht ho hok,h.e.keep ho fun k hk hm=>by obtain rfl:=List.mem_singleton.1 hm;exact BQ h.e a2 (by decide) hk⟩
theorem St.IE {wb w:World} {D:Ctx} {b4:Nat} {o:Obj} {nw:Bool} {H:List Br} (h:St wb D ((b4,o,nw) :: H) w) {b:Nat} {cs:Array Value} {ty:Nat} {fz:Nat × Nat} (hne:b4≠b) (hb:w.heap[b]?=some (.cells cs ty fz)) (hn:(H.all fun e=>TK ty e.2.1)=true:=by rfl):b∉((b4,o,nw) :: H).map (·.1):=fun hm=>by
 rcases aCu.1 hm with q | q
 ·exact hne q.symm
 ·obtain ⟨e,he,rfl⟩:=List.mem_map.1 q;have h1:=List.all_eq_true.1 hn e he;have h2:=h.at_ e (aCy _ he);rw [hb] at h2;rw [← aDo h2] at h1;simp [TK] at h1
theorem Pu.of {w:World} {E:List Nat} {fid:Nat} {caps:List Value} {f:Ch→Tk→Int × Ch} {s:Sy} {id:Int} (h:∀ hb F,De w hb ⟨s,[]⟩ F→Df (BK s.t id)=0→CP s.cf.cores (Ay s.t id)→(Ay s.t id).st≠0 →
 AO prog fid (.pointer (some ⟨hb,0,none⟩) :: KM (Ay s.t id) :: caps).toArray w fun v w'=>v = .int .i64 (f ⟨s,[]⟩ (Ay s.t id)).1∧KF w hb (f ⟨s,[]⟩ (Ay s.t id)).1 (f ⟨s,[]⟩ (Ay s.t id)).2 F w'):Pu w E fid caps (fun _=>True) f s id:=fun hb F hC _ he=>by
 obtain ⟨sb,tb,rb,v,ve,L,G,Ge,rfl,hO⟩:=hC.FA;exact h hb _ hC he (ok_task hO.s.ok.row id) (task_st he)
theorem gS (b2 hb:Nat) (s:Sy) (F:List Nat) (x:Tk) (id:Int) (w0:World) (h:De w0 hb ⟨s,[]⟩ F) (hid:In64 id) (B2:w0.heap[b2]?=some (.cells #[.int .i64 id] 3 (0,0))) (hx:CP s.cf.cores x) (hn:x.st≠0) :
 AO prog 65 #[.pointer (some ⟨hb,0,none⟩),KM x,.pointer (some ⟨b2,0,none⟩)] w0 fun v w'=>v = .int .i64 (FQ ⟨s,[]⟩ x id).1∧KF w0 hb (FQ ⟨s,[]⟩ x id).1 (FQ ⟨s,[]⟩ x id).2 F w':=by
 have FB:=h;have eX:FQ ⟨s,[]⟩ x id=(Df (BK (if BR x=true then (B0 ⟨s,[]⟩ x).2 else ⟨s,[]⟩).s.t id),⟨{ (if BR x=true then (B0 ⟨s,[]⟩ x).2 else ⟨s,[]⟩).s with t:=FJ (if BR x=true then (B0 ⟨s,[]⟩ x).2 else ⟨s,[]⟩).s.t id },(if BR x=true then (B0 ⟨s,[]⟩ x).2 else ⟨s,[]⟩).ev⟩):=rfl;rw [eX];have hs:=(St.nil w0).AF B2;refine AS func65 ntmps65 ?_;refine Ah ?_;refine Aq ?_;refine Gv hs ?_;clear hs;intro b4 w1 AL z1 hs;refine Ja ?_;refine cl (h:=by exact JT x _) ?_;rintro v w2 ⟨rfl,AN⟩;replace hs:=hs.JL AN;have BF:=AL.trans AN;have zA:=BF.size;refine XS.nil ?_;refine Dw ?_;generalize GB:(if BR x=true then (B0 ⟨s,[]⟩ x).2 else (⟨s,[]⟩:Ch))=S1;refine B9 (fun (_:List Nat)=>[(0,.pointer (some ⟨hb,0,none⟩)),(2,.pointer (some ⟨b2,0,none⟩))]) (fun F1 w=>w.heap[b2]?=some (.cells #[.int .i64 id] 3 (0,0))∧De w hb S1 F1∧(∀ k∈F1,k∈F∨w0.heap.size≤k)∧AB F w0 w) ?_ ?_
 ·cases hc:BR x with
  | false =>
    rw [hc,if_neg AA] at GB;subst GB;refine Jg ?_;exact AQ F Ad ⟨hs.get (b:=b2) AX,FB.only BF,fun k hk => .inl hk,BF.weaken AA⟩
  | true =>
    rw [hc,if_pos rfl] at GB;subst GB;refine Ji ?_;refine cl (h:=by exact SB hb ⟨s,[]⟩ F x _ (FB.only BF) hx hn AA) ?_;rintro v w3 ⟨rfl,F3,V5,Md,AU⟩;have k2:=AU.block (hs.get (b:=b2) AX) ((FB.only BF).not (hs.get (b:=b2) AX) rfl);clear hs;have hs:=St.nil w3;refine Jb ?_
    exact AQ F3 Ad ⟨k2,V5,fun k hk=>by
     rcases Md k hk with q | q
     ·exact .inl q
     ·exact .inr om,(BF.weaken AA).step AU (fun k hk => .inl hk)⟩
 ·rintro F1 env w4 ⟨k2,Zh,rH,Ar⟩;obtain ⟨sb,tb,rb,v,ve,L,G,Ge,rfl,hO⟩:=Zh.FA;clear hs;have hs:=((St.nil w4).AF k2).AF hO.s.o |>.AF hO.h
  refine Jb ?_;refine Hy [] hs ?_;clear hs;intro hX w CG hs;replace hO:=hO.only CG;refine tks 0 8 ?_;refine dt 8 hX ?_;refine cl (h:=by exact Ua tb rb S1.s.t id _ hO.s.t hid) ?_;rintro v12 I6 ⟨rfl,FZ,Bl⟩;have IC:=hO.s.t;obtain ⟨KE,Hz,MU,Ed,_⟩:=IC;replace hs:=hs.Dj Bl (fun k hk=>by obtain rfl:=List.mem_singleton.1 hk;exact hs.Ec Ed);have KT:=hO.JD FZ Bl (hO.s.ok.rows (V6 hO.s.ok.row _) (UJ _ _));have zD:=CG.size;have z4:=Ar.size;refine Jn ?_;refine tk 9 hX ?_;refine en ?_;refine Jb ?_;refine AG ?_;have Ao:=hs.AD [] (fun e he => .inr (.inr (hs.hold e he))) sD
  exact ⟨rfl,fun _=>⟨_,KT.at,rH⟩,((Ar.step CG AA).step Bl (fun k hk=>by
   obtain rfl:=List.mem_singleton.1 hk;exact rH _ (by simp [CC])))⟩
theorem CY.Es {w w':World} {hb sb tb rb:Nat} {v ve:Value} {s:Ch} {L:List Ce} {G Ge:List Nat} (h:CY w hb sb tb rb v ve s L G Ge) {b:Nat} {cs:Array Value} {fz:Nat × Nat} (ho:AB [b] w w') (hb':w.heap[b]?=some (.cells cs 51 fz)) (hne:b≠rb):CY w' hb sb tb rb v ve s L G Ge:=by
 have hn:=h.aAI hb' hne;have hd:∀ k∈CC hb sb tb rb L G Ge,k∉[b]:=fun k hk hm=>by obtain rfl:=List.mem_singleton.1 hm;exact hn hk
 exact ⟨ho.block h.h (hd _ (by simp [CC])),h.s.Ai ho (fun k hk=>hd k (by simp only [CC,aCu,aC4] at hk ⊢;exact .inr (.inl hk))),h.e.keep ho (fun k hk=>hd k (by simp [CC,hk]))⟩
theorem Y6 (b2 b3 hb:Nat) (s:Sy) (F:List Nat) (x:Tk) (id q:Int) (w0:World) (h:De w0 hb ⟨s,[]⟩ F) (hid:In64 id) (B2:w0.heap[b2]?=some (.cells #[.int .u64 q] 22 (0,0))) (B3:w0.heap[b3]?=some (.cells #[.int .i64 id] 3 (0,0))) (hx:CP s.cf.cores x) (hn:x.st≠0) :
 AO prog 74 #[.pointer (some ⟨hb,0,none⟩),KM x,.pointer (some ⟨b2,0,none⟩),.pointer (some ⟨b3,0,none⟩)] w0 fun v w'=>v = .int .i64 (DM ⟨s,[]⟩ x id q).1∧KF w0 hb (DM ⟨s,[]⟩ x id q).1 (DM ⟨s,[]⟩ x id q).2 F w':=by
 obtain ⟨sb,tb,rb,v,ve,L,G,Ge,rfl,hO⟩:=h.FA;have Zj:=hO.s.t.SP.2;have eX:DM ⟨s,[]⟩ x id q=if BC q 1048576≠0 then (BC q 1048576,⟨s,[]⟩) else if BR x=false then (0,⟨Bz s { x with w:=IntKind.u32.wrap q },[]⟩) else DX ⟨Bz s { x with w:=IntKind.u32.wrap q },[]⟩ x.core ((Bp (AK s x.core) id (IntKind.u32.wrap q)).1,(Bp (AK s x.core) id (IntKind.u32.wrap q)).2,.none):=rfl
 rw [eX];have hs:=(((St.nil w0).AF B2).AF B3).AF hO.s.o |>.AF hO.h
 have Ap:AB (CC hb sb tb rb L G Ge) w0 w0:=(AB.refl [] w0).weaken AA;refine AS func74 ntmps74 ?_;refine Ah ?_;refine Aq ?_;refine Gv hs ?_;clear hs;intro b5 w1 AL z1 hs;replace hO:=hO.only AL;replace Ap:=Ap.step AL AA;have GD:b5≠rb:=by omega
 refine Jc ?_;refine Hy [] hs ?_;clear hs;intro hX w CG hs;replace hO:=hO.only CG;replace Ap:=Ap.step CG AA;refine tks 0 8 ?_;refine dt 8 hX ?_;refine cl (h:=by exact Oq s.cf q _) ?_;rintro v2 w2 ⟨rfl,AN⟩;replace hs:=hs.JL AN;replace hO:=hO.only AN;replace Ap:=Ap.step AN AA;refine Jn ?_;refine tk 9 hX ?_;refine en ?_;by_cases he:BC q 1048576≠0
 ·rw [if_pos he];generalize BC q 1048576=ee at *
  repeat' (first|refine Sa ?_|(refine st hs ?_;intro w hs)|refine xc_cond rfl (fun hc=>?_) fun hc=>?_|fail)
  ·refine AG ?_;exact ⟨rfl,fun z=>absurd z he,Ap.step (hs.AD [] (fun e he => .inr (.inr (hs.hold e he))) sD) AA⟩
  ·exact absurd (by simpa using hc) he
 have lW:BC q 1048576=0:=by
  rcases Classical.em (BC q 1048576=0) with z | z
  ·exact z
  ·exact absurd z he
 rw [if_neg he,lW];have hy:CP s.cf.cores { x with w:=IntKind.u32.wrap q }:=⟨hx.1,hx.2.1,hx.2.2.1,Mt _,hx.2.2.2.2⟩;have lI:({ x with w:=IntKind.u32.wrap q }:Tk).st≠0:=hn;have iR:BR { x with w:=IntKind.u32.wrap q }=BR x:=rfl;have ZZ:({ x with w:=IntKind.u32.wrap q }:Tk).core=x.core:=rfl;have hwu:Fb (IntKind.u32.wrap q):=Mt _;have z2:=Ap.size;have hH:=hs.hold;have EV:=hs.get At.head
 repeat' (first|refine Sd ?_|(refine st hs ?_;intro w hs)|fail)
 have AU:=hs.AD [b5] (fun e he=>by
  rcases aCu.1 he with rfl | he
  ·exact .inr (.inl AA)
  ·exact .inr (.inr (hH e (aCy _ he)))) sD
 replace hs:=hs.En;simp only [aC2,aDD] at hs;replace hO:=hO.Es AU EV GD;replace Ap:=Ap.step AU (fun k hk => .inr (by obtain rfl:=List.mem_singleton.1 hk;omega));clear hH EV;refine Hy [] hs ?_;clear hs;intro hX w CG hs;replace hO:=hO.only CG;replace Ap:=Ap.step CG AA;refine tks 0 8 ?_;refine dt 8 hX ?_;refine cl (h:=by exact FV tb rb _ (({ x with w:=IntKind.u32.wrap q })) _ hO.s.t hy.1) ?_;rintro v12 I6 ⟨rfl,FZ,Bl⟩;have IC:=hO.s.t;obtain ⟨KE,Hz,MU,Ed,_⟩:=IC;replace hs:=hs.Dj Bl (fun k hk=>by obtain rfl:=List.mem_singleton.1 hk;exact hs.IE GD Ed);replace hO:=hO.JD FZ Bl (hO.s.ok.CM hy);replace Ap:=Ap.step Bl (fun k hk => .inl (by obtain rfl:=List.mem_singleton.1 hk;simp [CC]));refine Jn ?_;refine en ?_;refine Ja ?_;refine cl (h:=by exact JT { x with w:=IntKind.u32.wrap q } _) ?_;rintro v13 J2 ⟨rfl,J8⟩;replace hs:=hs.JL J8;replace hO:=hO.only J8;replace Ap:=Ap.step J8 AA;rw [iR];cases Zl:BR x with
 | false =>
   rw [if_pos rfl];refine Je ?_;refine AG ?_;have Ao:=hs.AD [] (fun e he => .inr (.inr (hs.hold e he))) sD;exact ⟨rfl,fun _=>⟨_,(hO.only Ao).at,fun k hk => .inl hk⟩,Ap.step Ao AA⟩
 | true =>
   rw [if_neg AA];have Hp:=hO.place (x:={ x with w:=IntKind.u32.wrap q }) hy lI;obtain ⟨n,e,g,cap,cur,Fa,hlt,he,hC,hce,rfl,hg,GI,WD,hR,_,_,_,hcb⟩:=Hp;rw [ZZ] at Fa;have J4:AK s n=e.c:=hce;rw [Fa,J4];obtain ⟨xi,xt,xc,xw,Cd,xl⟩:=x;simp only at Fa;subst Fa;simp only at hs;have k5:=hs.get (b:=b5) AX;have k3:=hs.get (b:=b3) AX;clear hs;have hs:=((((St.nil J2).AF k3).AF hg).AF hO.s.o).AF hO.h |>.AF k5
   refine Jl ?_;have GZ:Cj (BO (Bp e.c id (IntKind.u32.wrap q)).1 (Bp e.c id (IntKind.u32.wrap q)).2 .none):=Cj.none.try (Kk hR id _)
   have hkn:=HI (e:=(Bp e.c id (IntKind.u32.wrap q)).1) (r1 := .none) (Kk hR id (IntKind.u32.wrap q));have eC:DX ⟨Bz s { id:=xi,st:=xt,core:=n,w:=IntKind.u32.wrap q,slice:=Cd,lag:=xl },[]⟩ n ((Bp e.c id (IntKind.u32.wrap q)).1,(Bp e.c id (IntKind.u32.wrap q)).2,.none)=if (Bp e.c id (IntKind.u32.wrap q)).1=0 then (0,BJ ⟨BX (Bz s { id:=xi,st:=xt,core:=n,w:=IntKind.u32.wrap q,slice:=Cd,lag:=xl }) n (CU e.c (Bp e.c id (IntKind.u32.wrap q)).1 (Bp e.c id (IntKind.u32.wrap q)).2),[]⟩ n (BO (Bp e.c id (IntKind.u32.wrap q)).1 (Bp e.c id (IntKind.u32.wrap q)).2 .none)) else ((Bp e.c id (IntKind.u32.wrap q)).1,⟨Bz s { id:=xi,st:=xt,core:=n,w:=IntKind.u32.wrap q,slice:=Cd,lag:=xl },[]⟩):=by rw [← J4];rfl
   rw [eC];generalize hrp:BO (Bp e.c id (IntKind.u32.wrap q)).1 (Bp e.c id (IntKind.u32.wrap q)).2 .none=rp at GZ hkn
   refine B9 (fun (y:Nat × Value × Value × List Ce)=>[(0,.pointer (some ⟨hb,0,none⟩)),(5,.pointer (some ⟨b5,0,none⟩)),(8,.pointer (some ⟨y.1,0,none⟩)),(9,.int .i64 (Bp e.c id (IntKind.u32.wrap q)).1)])
    (fun y w=>w.heap[b5]?=some (Nf { id:=xi,st:=xt,core:=n,w:=IntKind.u32.wrap q,slice:=Cd,lag:=xl })∧w.heap[y.1]?=some (K7 y.2.1 y.2.2.1)∧Af J2 w hb sb tb rb (.slice (some ⟨g,0,none⟩) L.length cap) ve ⟨BX (Bz s { id:=xi,st:=xt,core:=n,w:=IntKind.u32.wrap q,slice:=Cd,lag:=xl }) n (CU e.c (Bp e.c id (IntKind.u32.wrap q)).1 (Bp e.c id (IntKind.u32.wrap q)).2),[]⟩ L y.2.2.2 G Ge (.agg #[y.2.1,y.2.2.1]) rp) ?_ ?_
   ·skip
    refine Hy [] hs ?_;clear hs;intro hX w BD hs;refine tks 0 9 ?_;refine tk 9 hX (hr:=fun w' hH=>BA AJ rfl rfl rfl (by show (0:Int)≤(n:Int);omega) (by show (n:Int) < _;omega)) (k:=?_);refine tk 10 hX (hr:=fun w' hH=>r_load AJ rfl rfl (hH rfl) AX (by simpa using GI)) ?_;refine tks 11 3 ?_;refine HR 14 18 hX (h1:=?_) (h2:=?_)
    ·skip
     refine cl (h:=by exact S2 e.cb e.c e.F id (IntKind.u32.wrap q) _ (hC.only BD) hid hwu) ?_;rintro v1 w2 ⟨rv,rfl,T⟩;have hf:=T.form;rw [hrp] at hf;obtain ⟨ag,cg,ap,cp,rfl⟩:=hf;obtain ⟨L',hA⟩:=CX (hO.only BD) he T BD;rw [hrp] at hA;replace hs:=hs.Dj T.2.2 (fun k hk=>by obtain rfl:=List.mem_singleton.1 hk;exact hs.Ec (BD.block hcb AA));refine Jn ?_;refine tks 15 3 ?_;refine dt 18 hX ?_;refine FK hs ?_;clear hs;intro b6 w6 Ao z6 hs;have y6:(J2).heap.size≤b6:=aC9 (AB.size hA.o) z6;replace hA:=hA.keep Ao;refine Jn ?_;refine dt 19 hX ?_;have q6:=hs.get (b:=b6) AX;refine D2 hs ?_;clear hs;intro JI CT hs;replace hA:=hA.store CT q6 rfl (by decide) (by decide) y6;refine Jn ?_;refine tk 20 hX ?_;refine en ?_;have r3:=hs.get (b:=b5) AX;have r6:=hs.get (b:=b6) AX;exact AQ (b6,.slice ag rp.g.length cg,.slice ap rp.p.length cp,L') Ad ⟨r3,r6,hA⟩
    ·skip
     refine FK hs ?_;clear hs;intro b6 w6 Ao z6 hs;have y6:(J2).heap.size≤b6:=aC9 (AB.size BD) z6;replace BD:=BD.trans Ao;refine Jn ?_;refine dt 14 hX ?_;refine cl (h:=by exact S2 e.cb e.c e.F id (IntKind.u32.wrap q) _ (hC.only BD) hid hwu) ?_;rintro v1 w2 ⟨rv,rfl,T⟩;have hf:=T.form;rw [hrp] at hf;obtain ⟨ag,cg,ap,cp,rfl⟩:=hf;obtain ⟨L',hA⟩:=CX (hO.only BD) he T BD;rw [hrp] at hA;replace hs:=hs.Dj T.2.2 (fun k hk=>by obtain rfl:=List.mem_singleton.1 hk;exact hs.Ec (BD.block hcb AA));refine Jn ?_;refine tks 15 3 ?_;refine dt 19 hX ?_;have q6:=hs.get (b:=b6) AX;refine D2 hs ?_;clear hs;intro JI CT hs;replace hA:=hA.store CT q6 rfl (by decide) (by decide) y6;refine Jn ?_;refine tk 20 hX ?_;refine en ?_;have r3:=hs.get (b:=b5) AX;have r6:=hs.get (b:=b6) AX;exact AQ (b6,.slice ag rp.g.length cg,.slice ap rp.p.length cp,L') Ad ⟨r3,r6,hA⟩
   ·skip
    rintro ⟨b6,vg,vp,L'⟩ env My ⟨k3,k6,hA⟩;simp only at k6 hA;clear hs;have Ln:=hA.c.h;have hs:=(((St.nil My).AF k3).AF k6).AF Ln;have Xl:=hA.p;obtain ⟨_,_,_,_,EG,_,_⟩:=hA.p;cases EG;have rD:=Ap.size;generalize (Bp e.c id (IntKind.u32.wrap q))=J at *;by_cases hJ:J.1=0
    ·rw [if_pos hJ];rw [hJ] at hA ⊢;refine Je ?_;have hoq:=hs.AD [] (by simp [k3,k6,Ln]) sD;refine cl (h:=by exact GM hb _ _ n _ rp _ (hA.c.only hoq).at (Xl.Fi hoq AA) GZ (by have:=hkn.1;have:=hkn.2;have e1:Rp.none.p.length=0:=rfl;have e2:Rp.none.g.length=0:=rfl;have e3:([]:List Ev).length=0:=rfl;simp only at *;omega)) (k:=?_);rintro v25 w25 ⟨qP,NN,Ns,J6⟩;have Ob:=hA.o.size;have EB:=Ap.step ((hA.o.step hoq AA).step J6 hA.f) (fun k hk => .inl hk);have NC:=IV hA.f Ns (show (J2).heap.size≤_ by omega);clear hs;have hs:=St.nil w25;refine Ja ?_;refine AG ?_;have Cp:=hs.AE rfl
     exact ⟨rfl,fun _=>⟨_,NN.only Cp,fun k hk=>by
      rcases NC k hk with q | q
      ·exact .inl q
      ·exact .inr om⟩,EB.step Cp AA⟩
    ·rw [if_neg hJ]
     repeat' (first|refine Sa ?_|refine Aw rfl (fun hc=>?_) fun hc=>?_|fail)
     ·exact absurd (by simpa using hc) hJ
     ·refine AG ?_;have Cp:=hs.AD [] (by simp [k3,k6,Ln]) sD;exact ⟨rfl,fun q=>absurd q hJ,(Ap.step (hA.o.step Cp AA) (fun k hk => .inl hk))⟩
theorem Yf (b2 b3 hb:Nat) (s:Sy) (F:List Nat) (x:Tk) (id q:Int) (w0:World) (h:De w0 hb ⟨s,[]⟩ F) (hid:In64 id) (hq:BY q) (B2:w0.heap[b2]?=some (.cells #[.int .u64 q] 22 (0,0))) (B3:w0.heap[b3]?=some (.cells #[.int .i64 id] 3 (0,0))) (hx:CP s.cf.cores x) (hn:x.st≠0) :
 AO prog 76 #[.pointer (some ⟨hb,0,none⟩),KM x,.pointer (some ⟨b2,0,none⟩),.pointer (some ⟨b3,0,none⟩)] w0 fun v w'=>v = .int .i64 (Dp ⟨s,[]⟩ x id q).1∧KF w0 hb (Dp ⟨s,[]⟩ x id q).1 (Dp ⟨s,[]⟩ x id q).2 F w':=by
 obtain ⟨sb,tb,rb,v,ve,L,G,Ge,rfl,hO⟩:=h.FA;have Zj:=hO.s.t.SP.2;have eX:Dp ⟨s,[]⟩ x id q=if BC q (D7 s.cf.slice)≠0 then (BC q (D7 s.cf.slice),⟨s,[]⟩) else if BR x=false then (0,⟨Bz s { x with slice:=q },[]⟩) else DX ⟨Bz s { x with slice:=q },[]⟩ x.core ((Bq (AK s x.core) id q).1,(Bq (AK s x.core) id q).2,.none):=rfl
 rw [eX];have hs:=(((St.nil w0).AF B2).AF B3).AF hO.s.o |>.AF hO.h
 have Ap:AB (CC hb sb tb rb L G Ge) w0 w0:=(AB.refl [] w0).weaken AA;refine AS func76 ntmps76 ?_;refine Ah ?_;refine Aq ?_;refine Gv hs ?_;clear hs;intro b5 w1 AL z1 hs;replace hO:=hO.only AL;replace Ap:=Ap.step AL AA;have GD:b5≠rb:=by omega
 refine Jc ?_;refine Hy [] hs ?_;clear hs;intro hX w CG hs;replace hO:=hO.only CG;replace Ap:=Ap.step CG AA;refine tks 0 8 ?_;refine dt 8 hX ?_;refine cl (h:=by exact Ow s.cf q _) ?_;rintro v2 w2 ⟨rfl,AN⟩;replace hs:=hs.JL AN;replace hO:=hO.only AN;replace Ap:=Ap.step AN AA;refine Jn ?_;refine tk 9 hX ?_;refine en ?_;by_cases he:BC q (D7 s.cf.slice)≠0
 ·rw [if_pos he];generalize BC q (D7 s.cf.slice)=ee at *
  repeat' (first|refine Sa ?_|(refine st hs ?_;intro w hs)|refine xc_cond rfl (fun hc=>?_) fun hc=>?_|fail)
  ·refine AG ?_;exact ⟨rfl,fun z=>absurd z he,Ap.step (hs.AD [] (fun e he => .inr (.inr (hs.hold e he))) sD) AA⟩
  ·exact absurd (by simpa using hc) he
 have lW:BC q (D7 s.cf.slice)=0:=by
  rcases Classical.em (BC q (D7 s.cf.slice)=0) with z | z
  ·exact z
  ·exact absurd z he
 rw [if_neg he,lW];have hy:CP s.cf.cores { x with slice:=q }:=⟨hx.1,hx.2.1,hx.2.2.1,hx.2.2.2.1,hq,hx.2.2.2.2.2⟩;have lI:({ x with slice:=q }:Tk).st≠0:=hn;have iR:BR { x with slice:=q }=BR x:=rfl;have ZZ:({ x with slice:=q }:Tk).core=x.core:=rfl;have z2:=Ap.size;have hH:=hs.hold;have EV:=hs.get At.head
 repeat' (first|refine Sd ?_|(refine st hs ?_;intro w hs)|fail)
 have AU:=hs.AD [b5] (fun e he=>by
  rcases aCu.1 he with rfl | he
  ·exact .inr (.inl AA)
  ·exact .inr (.inr (hH e (aCy _ he)))) sD
 replace hs:=hs.En;simp only [aC2,aDD] at hs;replace hO:=hO.Es AU EV GD;replace Ap:=Ap.step AU (fun k hk => .inr (by obtain rfl:=List.mem_singleton.1 hk;omega));clear hH EV;refine Hy [] hs ?_;clear hs;intro hX w CG hs;replace hO:=hO.only CG;replace Ap:=Ap.step CG AA;refine tks 0 8 ?_;refine dt 8 hX ?_;refine cl (h:=by exact FV tb rb _ (({ x with slice:=q })) _ hO.s.t hy.1) ?_;rintro v12 I6 ⟨rfl,FZ,Bl⟩;have IC:=hO.s.t;obtain ⟨KE,Hz,MU,Ed,_⟩:=IC;replace hs:=hs.Dj Bl (fun k hk=>by obtain rfl:=List.mem_singleton.1 hk;exact hs.IE GD Ed);replace hO:=hO.JD FZ Bl (hO.s.ok.CM hy);replace Ap:=Ap.step Bl (fun k hk => .inl (by obtain rfl:=List.mem_singleton.1 hk;simp [CC]));refine Jn ?_;refine en ?_;refine Ja ?_;refine cl (h:=by exact JT { x with slice:=q } _) ?_;rintro v13 J2 ⟨rfl,J8⟩;replace hs:=hs.JL J8;replace hO:=hO.only J8;replace Ap:=Ap.step J8 AA;rw [iR];cases Zl:BR x with
 | false =>
   rw [if_pos rfl];refine Je ?_;refine AG ?_;have Ao:=hs.AD [] (fun e he => .inr (.inr (hs.hold e he))) sD;exact ⟨rfl,fun _=>⟨_,(hO.only Ao).at,fun k hk => .inl hk⟩,Ap.step Ao AA⟩
 | true =>
   rw [if_neg AA];have Hp:=hO.place (x:={ x with slice:=q }) hy lI;obtain ⟨n,e,g,cap,cur,Fa,hlt,he,hC,hce,rfl,hg,GI,WD,hR,_,_,_,hcb⟩:=Hp;rw [ZZ] at Fa;have J4:AK s n=e.c:=hce;rw [Fa,J4];obtain ⟨xi,xt,xc,xw,Cd,xl⟩:=x;simp only at Fa;subst Fa;simp only at hs;have k5:=hs.get (b:=b5) AX;have k3:=hs.get (b:=b3) AX;have k2:=hs.get (b:=b2) AX;clear hs;have hs:=(((((St.nil J2).AF k2).AF k3).AF hg).AF hO.s.o).AF hO.h |>.AF k5
   refine Jl ?_;have GZ:Cj (BO (Bq e.c id q).1 (Bq e.c id q).2 .none):=Cj.none.try (Kx hR id q)
   have hkn:=HI (e:=(Bq e.c id q).1) (r1 := .none) (Kx hR id q);have eC:DX ⟨Bz s { id:=xi,st:=xt,core:=n,w:=xw,slice:=q,lag:=xl },[]⟩ n ((Bq e.c id q).1,(Bq e.c id q).2,.none)=if (Bq e.c id q).1=0 then (0,BJ ⟨BX (Bz s { id:=xi,st:=xt,core:=n,w:=xw,slice:=q,lag:=xl }) n (CU e.c (Bq e.c id q).1 (Bq e.c id q).2),[]⟩ n (BO (Bq e.c id q).1 (Bq e.c id q).2 .none)) else ((Bq e.c id q).1,⟨Bz s { id:=xi,st:=xt,core:=n,w:=xw,slice:=q,lag:=xl },[]⟩):=by rw [← J4];rfl
   rw [eC];generalize hrp:BO (Bq e.c id q).1 (Bq e.c id q).2 .none=rp at GZ hkn
   refine B9 (fun (y:Nat × Value × Value × List Ce)=>[(0,.pointer (some ⟨hb,0,none⟩)),(5,.pointer (some ⟨b5,0,none⟩)),(8,.pointer (some ⟨y.1,0,none⟩)),(9,.int .i64 (Bq e.c id q).1)])
    (fun y w=>w.heap[b5]?=some (Nf { id:=xi,st:=xt,core:=n,w:=xw,slice:=q,lag:=xl })∧w.heap[y.1]?=some (K7 y.2.1 y.2.2.1)∧Af J2 w hb sb tb rb (.slice (some ⟨g,0,none⟩) L.length cap) ve ⟨BX (Bz s { id:=xi,st:=xt,core:=n,w:=xw,slice:=q,lag:=xl }) n (CU e.c (Bq e.c id q).1 (Bq e.c id q).2),[]⟩ L y.2.2.2 G Ge (.agg #[y.2.1,y.2.2.1]) rp) ?_ ?_
   ·skip
    refine Hy [] hs ?_;clear hs;intro hX w BD hs;refine tks 0 9 ?_;refine tk 9 hX (hr:=fun w' hH=>BA AJ rfl rfl rfl (by show (0:Int)≤(n:Int);omega) (by show (n:Int) < _;omega)) (k:=?_);refine tk 10 hX (hr:=fun w' hH=>r_load AJ rfl rfl (hH rfl) AX (by simpa using GI)) ?_;refine tks 11 2 ?_;refine HR 13 17 hX (h1:=?_) (h2:=?_)
    ·skip
     refine cl (h:=by exact Up e.cb e.c e.F id q _ (hC.only BD) hid hq) ?_;rintro v1 w2 ⟨rv,rfl,T⟩;have hf:=T.form;rw [hrp] at hf;obtain ⟨ag,cg,ap,cp,rfl⟩:=hf;obtain ⟨L',hA⟩:=CX (hO.only BD) he T BD;rw [hrp] at hA;replace hs:=hs.Dj T.2.2 (fun k hk=>by obtain rfl:=List.mem_singleton.1 hk;exact hs.Ec (BD.block hcb AA));refine Jn ?_;refine tks 14 3 ?_;refine dt 17 hX ?_;refine FK hs ?_;clear hs;intro b6 w6 Ao z6 hs;have y6:(J2).heap.size≤b6:=aC9 (AB.size hA.o) z6;replace hA:=hA.keep Ao;refine Jn ?_;refine dt 18 hX ?_;have q6:=hs.get (b:=b6) AX;refine D2 hs ?_;clear hs;intro JI CT hs;replace hA:=hA.store CT q6 rfl (by decide) (by decide) y6;refine Jn ?_;refine tk 19 hX ?_;refine en ?_;have r3:=hs.get (b:=b5) AX;have r6:=hs.get (b:=b6) AX;exact AQ (b6,.slice ag rp.g.length cg,.slice ap rp.p.length cp,L') Ad ⟨r3,r6,hA⟩
    ·skip
     refine FK hs ?_;clear hs;intro b6 w6 Ao z6 hs;have y6:(J2).heap.size≤b6:=aC9 (AB.size BD) z6;replace BD:=BD.trans Ao;refine Jn ?_;refine dt 13 hX ?_;refine cl (h:=by exact Up e.cb e.c e.F id q _ (hC.only BD) hid hq) ?_;rintro v1 w2 ⟨rv,rfl,T⟩;have hf:=T.form;rw [hrp] at hf;obtain ⟨ag,cg,ap,cp,rfl⟩:=hf;obtain ⟨L',hA⟩:=CX (hO.only BD) he T BD;rw [hrp] at hA;replace hs:=hs.Dj T.2.2 (fun k hk=>by obtain rfl:=List.mem_singleton.1 hk;exact hs.Ec (BD.block hcb AA));refine Jn ?_;refine tks 14 3 ?_;refine dt 18 hX ?_;have q6:=hs.get (b:=b6) AX;refine D2 hs ?_;clear hs;intro JI CT hs;replace hA:=hA.store CT q6 rfl (by decide) (by decide) y6;refine Jn ?_;refine tk 19 hX ?_;refine en ?_;have r3:=hs.get (b:=b5) AX;have r6:=hs.get (b:=b6) AX;exact AQ (b6,.slice ag rp.g.length cg,.slice ap rp.p.length cp,L') Ad ⟨r3,r6,hA⟩
   ·skip
    rintro ⟨b6,vg,vp,L'⟩ env My ⟨k3,k6,hA⟩;simp only at k6 hA;clear hs;have Ln:=hA.c.h;have hs:=(((St.nil My).AF k3).AF k6).AF Ln;have Xl:=hA.p;obtain ⟨_,_,_,_,EG,_,_⟩:=hA.p;cases EG;have rD:=Ap.size;generalize (Bq e.c id q)=J at *;by_cases hJ:J.1=0
    ·rw [if_pos hJ];rw [hJ] at hA ⊢;refine Je ?_;have hoq:=hs.AD [] (by simp [k3,k6,Ln]) sD;refine cl (h:=by exact GM hb _ _ n _ rp _ (hA.c.only hoq).at (Xl.Fi hoq AA) GZ (by have:=hkn.1;have:=hkn.2;have e1:Rp.none.p.length=0:=rfl;have e2:Rp.none.g.length=0:=rfl;have e3:([]:List Ev).length=0:=rfl;simp only at *;omega)) (k:=?_);rintro v25 w25 ⟨qP,NN,Ns,J6⟩;have Ob:=hA.o.size;have EB:=Ap.step ((hA.o.step hoq AA).step J6 hA.f) (fun k hk => .inl hk);have NC:=IV hA.f Ns (show (J2).heap.size≤_ by omega);clear hs;have hs:=St.nil w25;refine Ja ?_;refine AG ?_;have Cp:=hs.AE rfl
     exact ⟨rfl,fun _=>⟨_,NN.only Cp,fun k hk=>by
      rcases NC k hk with q | q
      ·exact .inl q
      ·exact .inr om⟩,EB.step Cp AA⟩
    ·rw [if_neg hJ]
     repeat' (first|refine Sa ?_|refine Aw rfl (fun hc=>?_) fun hc=>?_|fail)
     ·exact absurd (by simpa using hc) hJ
     ·refine AG ?_;have Cp:=hs.AD [] (by simp [k3,k6,Ln]) sD;exact ⟨rfl,fun q=>absurd q hJ,(Ap.step (hA.o.step Cp AA) (fun k hk => .inl hk))⟩
theorem bH (b2 hb:Nat) (s:Sy) (F:List Nat) (x:Tk) (id:Int) (w0:World) (h:De w0 hb ⟨s,[]⟩ F) (hid:In64 id) (B2:w0.heap[b2]?=some (.cells #[.int .i64 id] 3 (0,0))) (hx:CP s.cf.cores x) (hn:x.st≠0) :
 AO prog 72 #[.pointer (some ⟨hb,0,none⟩),KM x,.pointer (some ⟨b2,0,none⟩)] w0 fun v w'=>v = .int .i64 (EX ⟨s,[]⟩ x id).1∧KF w0 hb (EX ⟨s,[]⟩ x id).1 (EX ⟨s,[]⟩ x id).2 F w':=by
 obtain ⟨sb,tb,rb,v,ve,L,G,Ge,rfl,hO⟩:=h.FA;have Zj:=hO.s.t.SP.2;have eX:EX ⟨s,[]⟩ x id=if x.st=1 then (6,⟨s,[]⟩) else if x.st=3 then FM ⟨Bz s { x with st:=1 },[]⟩ { x with st:=1 } x.lag else DY ⟨s,[]⟩ { x with st:=1 } ((CN (AK s x.core) id).1,(CN (AK s x.core) id).2,.none):=rfl
 rw [eX];have hs:=((St.nil w0).AF B2).AF hO.s.o |>.AF hO.h
 have Ap:AB (CC hb sb tb rb L G Ge) w0 w0:=(AB.refl [] w0).weaken AA;refine AS func72 ntmps72 ?_;refine Ah ?_;refine Aq ?_;refine Gv hs ?_;clear hs;intro b4 w1 AL z1 hs;replace hO:=hO.only AL;replace Ap:=Ap.step AL AA;have GD:b4≠rb:=by omega
 have hy:CP s.cf.cores { x with st:=1 }:=hx.st hn om;have lI:({ x with st:=1 }:Tk).st≠0:=(by decide:(1:Int)≠0);have ZZ:({ x with st:=1 }:Tk).core=x.core:=rfl;have hxl:=hx.2.2.2.2.2.1;have z2:=Ap.size;have hH:=hs.hold;have EV:=hs.get At.head
 have stop1:∀ (w':World) (H':List Br),St w1 D0 ((b4,.cells #[.int .i64 x.id,.int .u8 1,.int .i64 x.core,.int .u32 x.w,.int .u64 x.slice,.int .i64 x.lag] 51 (0,0),false) :: H') w'→(∀ e∈H',w1.heap[e.1]?=some e.2.1)→AB [b4] w1 w':=fun w' H' h hh=>h.AD [b4] (fun e he=>by
  rcases aCu.1 he with rfl | he
  ·exact .inr (.inl AA)
  ·exact .inr (.inr (hh e he))) sD
 by_cases s1:x.st=1
 ·rw [if_pos s1];obtain ⟨xi,xt,xc,xw,Cd,xl⟩:=x;simp only at s1;subst s1
  repeat' (first|refine Sc ?_|(refine st hs ?_;intro w hs)|fail)
  refine AG ?_;have Ao:=stop1 _ _ hs (fun e he=>hH e (aCy _ he));exact ⟨rfl,fun z=>absurd z (show ¬ (6:Int)=0 by decide),Ap.step Ao (fun k hk => .inr (by obtain rfl:=List.mem_singleton.1 hk;omega))⟩
 rw [if_neg s1];by_cases s3:x.st=3
 ·rw [if_pos s3];obtain ⟨xi,xt,xc,xw,Cd,xl⟩:=x;simp only at s3;subst s3;clear hH EV;have hH:=hs.hold;have EV:=hs.get At.head
  repeat' (first|refine vs ?_|refine Aq ?_|refine Nx.h ?_|refine FP ?_|refine Eb ?_|(refine st hs ?_;intro w hs)|fail)
  have AU:=hs.AD [b4] (fun e he=>by
   rcases aCu.1 he with rfl | he
   ·exact .inr (.inl AA)
   ·exact .inr (.inr (hH e (aCy _ he)))) sD
  replace hs:=hs.En;simp only [aC2,aDD] at hs;replace hO:=hO.Es AU EV GD;replace Ap:=Ap.step AU (fun k hk => .inr (by obtain rfl:=List.mem_singleton.1 hk;omega));clear hH EV;refine Hy [] hs ?_;clear hs;intro hX w CG hs;replace hO:=hO.only CG;replace Ap:=Ap.step CG AA;refine tks 0 8 ?_;refine dt 8 hX ?_;refine cl (h:=by exact FV tb rb _ (({ id:=xi,st:=1,core:=xc,w:=xw,slice:=Cd,lag:=xl }:Tk)) _ hO.s.t hy.1) ?_;rintro v12 I6 ⟨rfl,FZ,Bl⟩;have IC:=hO.s.t;obtain ⟨KE,Hz,MU,Ed,_⟩:=IC;replace hs:=hs.Dj Bl (fun k hk=>by obtain rfl:=List.mem_singleton.1 hk;exact hs.IE GD Ed);replace hO:=hO.JD FZ Bl (hO.s.ok.CM hy);replace Ap:=Ap.step Bl (fun k hk => .inl (by obtain rfl:=List.mem_singleton.1 hk;simp [CC]));refine Jn ?_;refine en ?_;have Dx:∀ k∈CC hb sb tb rb L G Ge,k∈CC hb sb tb rb L G Ge∨w0.heap.size≤k:=fun k hk => .inl hk;refine Ja ?_;refine cl (h:=by exact ON hb ⟨Bz s { id:=xi,st:=1,core:=xc,w:=xw,slice:=Cd,lag:=xl },[]⟩ _ { id:=xi,st:=1,core:=xc,w:=xw,slice:=Cd,lag:=xl } xl _ hO.at hy lI hxl AA) ?_;rintro v25 w25 ⟨rfl,oX,J6⟩;have yB:=Ap.size;replace Ap:=Ap.step J6 (fun k hk => .inl hk);clear hs;have hs:=St.nil w25;refine Jc ?_;refine AG ?_;have Cp:=hs.AE rfl;refine ⟨rfl,fun e0=>?_,Ap.step Cp AA⟩;obtain ⟨F',h1,h2⟩:=oX e0
  exact ⟨F',h1.only Cp,fun k hk=>by
   rcases h2 k hk with q | q
   ·exact .inl q
   ·exact .inr om⟩
 rw [if_neg s3];have Hp:=hO.place (x:=x) hx hn;obtain ⟨n,e,g,cap,cur,Fa,hlt,he,hC,hce,rfl,hg,GI,WD,hR,_,_,_,hcb⟩:=Hp;have J4:AK s n=e.c:=hce
 have eC:∀ y:Tk,y.core=(n:Int)→DY ⟨s,[]⟩ y ((CN e.c id).1,(CN e.c id).2,.none)=if (CN e.c id).1=0 then (0,BJ ⟨Bz (BX s n (CU e.c (CN e.c id).1 (CN e.c id).2)) y,[]⟩ n (BO (CN e.c id).1 (CN e.c id).2 .none)) else ((CN e.c id).1,⟨s,[]⟩):=fun y hy=>by
  unfold DY;rw [hy,← J4]
 rw [Fa,J4,eC { id:=x.id,st:=1,core:=(n:Int),w:=x.w,slice:=x.slice,lag:=x.lag } rfl];obtain ⟨xi,xt,xc,xw,Cd,xl⟩:=x;simp only at Fa s1 s3;subst Fa;have GZ:Cj (BO (CN e.c id).1 (CN e.c id).2 .none):=Cj.none.try (MN hR id)
 have hkn:=HI (e:=(CN e.c id).1) (r1 := .none) (MN hR id);generalize hrp:BO (CN e.c id).1 (CN e.c id).2 .none=rp at GZ hkn
 repeat' (first|refine Sa ?_|(refine st hs ?_;intro w hs)|refine Aw rfl (fun hc=>?_) fun hc=>?_|fail)
 ·exact absurd (by simpa using hc) s1
 ·exact absurd (by simpa using hc) s3
 have AU:=stop1 _ _ hs (fun e he=>hH e (aCy _ he));replace hO:=hO.Es AU EV GD;replace Ap:=Ap.step AU (fun k hk => .inr (by obtain rfl:=List.mem_singleton.1 hk;omega))
 have hnc:∀ k∈e.F,k∉[b4]:=fun k hk hm=>by
  obtain rfl:=List.mem_singleton.1 hm;have:=hC.lt _ hk;exact (hC.not EV rfl) hk
 replace hC:=hC.Ai AU hnc;replace hcb:=AU.block hcb (fun hm=>hnc _ hC.mem hm);replace hg:=AU.block hg (by simpa using A3 hg EV (by decide));have k5:=hs.get (b:=b4) AX;have k3:=hs.get (b:=b2) AX;clear hs hH EV stop1;obtain ⟨J2,rfl⟩:∃ z,z=w:=⟨_,rfl⟩;have hs:=((((St.nil J2).AF k3).AF hg).AF hO.s.o).AF hO.h |>.AF k5
 refine B9 (fun (y:Nat × Value × Value × List Ce)=>[(0,.pointer (some ⟨hb,0,none⟩)),(4,.pointer (some ⟨b4,0,none⟩)),(7,.pointer (some ⟨y.1,0,none⟩)),(8,.int .i64 (CN e.c id).1)])
  (fun y w=>w.heap[b4]?=some (Nf { id:=xi,st:=1,core:=n,w:=xw,slice:=Cd,lag:=xl })∧w.heap[y.1]?=some (K7 y.2.1 y.2.2.1)∧Af J2 w hb sb tb rb (.slice (some ⟨g,0,none⟩) L.length cap) ve ⟨BX s n (CU e.c (CN e.c id).1 (CN e.c id).2),[]⟩ L y.2.2.2 G Ge (.agg #[y.2.1,y.2.2.1]) rp) ?_ ?_
 ·skip
  refine Hy [] hs ?_;clear hs;intro hX w BD hs;refine tks 0 9 ?_;refine tk 9 hX (hr:=fun w' hH=>BA AJ rfl rfl rfl (by show (0:Int)≤(n:Int);omega) (by show (n:Int) < _;omega)) (k:=?_);refine tk 10 hX (hr:=fun w' hH=>r_load AJ rfl rfl (hH rfl) AX (by simpa using GI)) ?_;refine tk 11 hX ?_;refine HR 12 16 hX (h1:=?_) (h2:=?_)
  ·skip
   refine cl (h:=by exact W8 e.cb e.c e.F id _ (hC.only BD) hid) ?_;rintro v1 w2 ⟨rv,rfl,T⟩;have hf:=T.form;rw [hrp] at hf;obtain ⟨ag,cg,ap,cp,rfl⟩:=hf;obtain ⟨L',hA⟩:=CX (hO.only BD) he T BD;rw [hrp] at hA;replace hs:=hs.Dj T.2.2 (fun k hk=>by obtain rfl:=List.mem_singleton.1 hk;exact hs.Ec (BD.block hcb AA));refine Jn ?_;refine tks 13 3 ?_;refine dt 16 hX ?_;refine FK hs ?_;clear hs;intro b6 w6 Ao z6 hs;have y6:(J2).heap.size≤b6:=aC9 (AB.size hA.o) z6;replace hA:=hA.keep Ao;refine Jn ?_;refine dt 17 hX ?_;have q6:=hs.get (b:=b6) AX;refine D2 hs ?_;clear hs;intro JI CT hs;replace hA:=hA.store CT q6 rfl (by decide) (by decide) y6;refine Jn ?_;refine tk 18 hX ?_;refine en ?_;have r3:=hs.get (b:=b4) AX;have r6:=hs.get (b:=b6) AX;exact AQ (b6,.slice ag rp.g.length cg,.slice ap rp.p.length cp,L') Ad ⟨r3,r6,hA⟩
  ·skip
   refine FK hs ?_;clear hs;intro b6 w6 Ao z6 hs;have y6:(J2).heap.size≤b6:=aC9 (AB.size BD) z6;replace BD:=BD.trans Ao;refine Jn ?_;refine dt 12 hX ?_;refine cl (h:=by exact W8 e.cb e.c e.F id _ (hC.only BD) hid) ?_;rintro v1 w2 ⟨rv,rfl,T⟩;have hf:=T.form;rw [hrp] at hf;obtain ⟨ag,cg,ap,cp,rfl⟩:=hf;obtain ⟨L',hA⟩:=CX (hO.only BD) he T BD;rw [hrp] at hA;replace hs:=hs.Dj T.2.2 (fun k hk=>by obtain rfl:=List.mem_singleton.1 hk;exact hs.Ec (BD.block hcb AA));refine Jn ?_;refine tks 13 3 ?_;refine dt 17 hX ?_;have q6:=hs.get (b:=b6) AX;refine D2 hs ?_;clear hs;intro JI CT hs;replace hA:=hA.store CT q6 rfl (by decide) (by decide) y6;refine Jn ?_;refine tk 18 hX ?_;refine en ?_;have r3:=hs.get (b:=b4) AX;have r6:=hs.get (b:=b6) AX;exact AQ (b6,.slice ag rp.g.length cg,.slice ap rp.p.length cp,L') Ad ⟨r3,r6,hA⟩
 ·rintro ⟨b6,vg,vp,L'⟩ env My ⟨k3,k6,hA⟩;simp only at k6 hA;clear hs hO;have rD:=Ap.size;have hp:=hA.p;obtain ⟨_,_,_,_,EG,_,_⟩:=hA.p;cases EG;have hO:=hA.c;replace Ap:=Ap.step hA.o (fun k hk => .inl hk)
  have X1:∀ k∈CC hb sb tb rb L' G Ge,k∈CC hb sb tb rb L G Ge∨w0.heap.size≤k:=fun k hk=>by
   rcases hA.f k hk with q | q
   ·exact .inl q
   ·exact .inr om
  generalize CN e.c id=J at *;have hs:=((((St.nil My).AF k6).AF hO.s.o).AF hO.h).AF k3;by_cases hJ:J.1=0
  ·rw [if_pos hJ];rw [hJ] at hO ⊢;refine Jd ?_;refine Hy [] hs ?_;clear hs;intro hX w CG hs;replace hO:=hO.only CG;replace Ap:=Ap.step CG AA;refine tks 0 8 ?_;refine dt 8 hX ?_;refine cl (h:=by exact FV tb rb _ (({ id:=xi,st:=1,core:=n,w:=xw,slice:=Cd,lag:=xl }:Tk)) _ hO.s.t hy.1) ?_;rintro v12 I6 ⟨rfl,FZ,Bl⟩;have IC:=hO.s.t;obtain ⟨KE,Hz,MU,Ed,_⟩:=IC;replace hs:=hs.Dj Bl (fun k hk=>by obtain rfl:=List.mem_singleton.1 hk;exact hs.IE GD Ed);replace hO:=hO.JD FZ Bl (hO.s.ok.CM hy);replace Ap:=Ap.step Bl (fun k hk => .inl (by obtain rfl:=List.mem_singleton.1 hk;simp [CC]));refine Jn ?_;refine en ?_;replace hp:=(hp.Fi CG AA).Fi Bl (fun k hk=>⟨_,_,_,by obtain rfl:=List.mem_singleton.1 hk;exact Ed,by decide,by decide⟩);refine Ja ?_;have Vf:=Ap.size;refine cl (h:=by exact GM hb _ _ n _ rp _ hO.at hp GZ (by have:=hkn.1;have:=hkn.2;have e1:Rp.none.p.length=0:=rfl;have e2:Rp.none.g.length=0:=rfl;have e3:([]:List Ev).length=0:=rfl;simp only at *;omega)) (k:=?_);rintro v25 w25 ⟨qP,NN,Ns,J6⟩;replace Ap:=Ap.step J6 X1;have NC:=IV X1 Ns Vf;clear hs;have hs:=St.nil w25;refine Ja ?_;refine AG ?_;have Cp:=hs.AE rfl;exact ⟨rfl,fun _=>⟨_,NN.only Cp,NC⟩,Ap.step Cp AA⟩
  ·rw [if_neg hJ];generalize J.1=ee at *
   repeat' (first|refine Sa ?_|refine xc_cond rfl (fun hc=>?_) fun hc=>?_|fail)
   ·refine AG ?_;have Cp:=hs.AD [] (fun e he => .inr (.inr (hs.hold e he))) sD;exact ⟨rfl,fun q=>absurd q hJ,Ap.step Cp AA⟩
   ·exact absurd (by simpa using hc) hJ
end Go.Proofs.Q0
