/- Proved: law18.CoreRequests returns true for every clock and every slice of acts, and its arguments read as before; no conditions -/
import Derived.Test.YtkbcfknnieggbaaGreatDoorBaseU10
import Derived.Test.YtkbcfknnieggbaaGreatDoorCards
import Derived.SevenTiedAt
set_option linter.unusedVariables false
set_option linter.unusedSimpArgs false
set_option maxRecDepth 100000
namespace Go.Proofs.YtkbcfknnieggbaaGreatDoorX
open Go Go.RowKit
theorem tickd {c:Cs} {a:Ac18} (ha:a.In) (h:6 < a.d % 10):doC c a=tickC c a.ns:=by
  unfold doC
  rw [if_neg (by omega),if_neg (by omega),if_neg (by omega),if_neg (by omega),if_neg (by omega),if_neg (by omega)]
def partsOf (c:Cs) (a:Ac18):List Pr:=(tryR (doC c a).1 (doC c a).2.1 (doC c a).2.2).p
theorem parts_none {c:Cs} {a:Ac18} (h:a.d % 10≤6) (hd:0≤a.d):partsOf c a=[]:=by
  unfold partsOf tryR
  split
  · show (doC c a).2.2.p=[]
    unfold doC
    by_cases c1:a.d % 10 < 2
    · rw [if_pos c1];rfl
    rw [if_neg c1]
    by_cases c2:a.d % 10=2
    · rw [if_pos c2];rfl
    rw [if_neg c2]
    by_cases c3:a.d % 10=3
    · rw [if_pos c3];rfl
    rw [if_neg c3]
    by_cases c4:a.d % 10=4
    · rw [if_pos c4];rfl
    rw [if_neg c4]
    by_cases c5:a.d % 10=5
    · rw [if_pos c5];rfl
    rw [if_neg c5]
    by_cases c6:a.d % 10=6
    · rw [if_pos c6];rfl
    omega
  · rfl
end Go.Proofs.YtkbcfknnieggbaaGreatDoorX

namespace Go.Proofs.YtkbcfknnieggbaaGreatDoorX
namespace FL
structure F1 where
  w:Rat
  x:Rat
  e:Rat
def lag (V:Rat) (k:F1):Rat:=k.w*V - k.x
end FL
end Go.Proofs.YtkbcfknnieggbaaGreatDoorX

namespace Go.Proofs.YtkbcfknnieggbaaGreatDoorX
open IB (IT)
open FL
/-! A set in memory. -/
end Go.Proofs.YtkbcfknnieggbaaGreatDoorX

namespace Go.Proofs.YtkbcfknnieggbaaGreatDoorX
open IB (IT)
open FL
theorem enter_win {s:Ss} {A:As} (h:Rep s A) {r:RT} (e0:entE A r=0):r.1.right=true∧findR A.l (idR r)=none∧∃ lo,AllW (baseA A r.1.i) lo (r.1.i :: its A.l):=by
  have hr:r.1.right=true:=by
    unfold entE layE at e0
    cases k:r.1.right
    · rw [k] at e0;cases e0
    · rfl
  have hj:joinA A r.1.i=0:=by unfold entE layE at e0;rw [hr] at e0;exact e0
  unfold joinA at hj
  cases k1:r.1.i.right with
  | false=>rw [k1] at hj;cases hj
  | true =>
  cases k2:(findR A.l r.1.i.id) with
  | some x=>rw [k1,k2] at hj;cases hj
  | none =>
  by_cases k3:A.l.length=32
  · rw [k1,k2,decide_eq_true k3] at hj;cases hj
  · cases k4:within (baseA A r.1.i) (its A.l ++ [r.1.i]) with
    | false=>rw [k1,k2,decide_eq_false k3,k4] at hj;cases hj
    | true =>
      obtain ⟨lo,hw⟩:=h.win (a:=itR r) k1 k3 k4
      rw [h.base] at hw
      exact ⟨hr,k2,lo,hw.perm (h.pits.cons _)⟩
/-! Where a position is that was moved. -/
end Go.Proofs.YtkbcfknnieggbaaGreatDoorX

namespace Go.Proofs.YtkbcfknnieggbaaGreatDoorX
open IB (IT)
open FL
/-! A core. -/
theorem move_keeps {r y:Rq} {p:Pt} (h:moveR r p=some y):y.i.p=p∧y.i.id=r.i.id:=by
  unfold moveR at h
  cases k:r.right with
  | false=>rw [k] at h;cases h
  | true =>
    rw [k] at h
    have h:setR ⟨⟨p,r.i.id,r.i.d⟩,r.left,r.slice,r.asleep⟩=some y:=h
    unfold setR at h
    cases k2:(fixR ⟨⟨p,r.i.id,r.i.d⟩,r.left,r.slice,r.asleep⟩).right with
    | false=>rw [k2] at h;cases h
    | true =>
      rw [k2] at h
      cases h
      unfold fixR
      simp only
      cases mayN r.left <;> exact ⟨rfl,rfl⟩
end Go.Proofs.YtkbcfknnieggbaaGreatDoorX

namespace Go.Proofs.YtkbcfknnieggbaaGreatDoorX
open IB (IT)
open FL
theorem srv_parts {c:Cs} {m:Int} {a:RT} (hg:getL c.A.l c.run=a.1) (m0:0≤m) (he:srvE c m=0):(srvY c m).1.i.id=a.1.i.id∧movP a.1.i.p (srvN c m*1048576)=some (srvY c m).1.i.p∧1≤srvN c m∧srvN c m≤a.1.left∧((srvY c m).1.left=a.1.left - srvN c m∨a.1.left - srvN c m=0):=by
  cases e:srvO c m with
  | none =>
    have:srvE c m=2:=by unfold srvE srvY;rw [e];exact (put_zero _).1
    omega
  | some u =>
    have hu:=srvO_in m0 e
    have hk:=(srvO_keeps e).1
    have hy:srvY c m=toRT u.1:=by unfold srvY;rw [e]
    have hy1:(srvY c m).1=u.1:=by rw [hy];exact toRT_eq hu
    rw [hy1]
    rw [hg] at hk
    unfold srvO serveR at e
    rw [hg] at e
    split at e
    · rename_i hc
      cases em:movP a.1.i.p (srvN c m*1048576) with
      | none=>rw [em] at e;cases e
      | some p =>
        rw [em] at e
        have e:(setR (lessR a.1 p (srvN c m))).map (fun u=>(u,decide (a.1.left - srvN c m=0)))=some u:=e
        cases es:setR (lessR a.1 p (srvN c m)) with
        | none=>rw [es] at e;cases e
        | some y =>
          rw [es] at e
          cases e
          have hn:0≤srvN c m:=by
            unfold srvN lessN
            have:=right_left hc.1
            rw [hg]
            split <;> omega
          unfold setR at es
          cases k2:(fixR (lessR a.1 p (srvN c m))).right with
          | false=>rw [k2] at es;cases es
          | true =>
            rw [k2] at es
            cases es
            have q1:(fixR (lessR a.1 p (srvN c m))).i.p=p:=by
              unfold fixR
              cases mayN (lessR a.1 p (srvN c m)).left <;> rfl
            have q2:(fixR (lessR a.1 p (srvN c m))).left=bif decide (a.1.left - srvN c m=0) then a.1.slice else a.1.left - srvN c m:=by
              unfold fixR
              cases mayN (lessR a.1 p (srvN c m)).left <;> rfl
            refine ⟨hk,congrArg some q1.symm,by omega,hc.2.2,?_⟩
            show (fixR (lessR a.1 p (srvN c m))).left=_∨_
            rw [q2]
            by_cases z:a.1.left - srvN c m=0
            · exact .inr z
            · rw [decide_eq_false z]
              exact .inl rfl
    · cases e
/-! What the laws ask. -/
end Go.Proofs.YtkbcfknnieggbaaGreatDoorX

namespace Go.Proofs.YtkbcfknnieggbaaGreatDoorX
open Go Go.RowKit
theorem mem_putR {r x:RT} {l:List RT} (h:x∈putR r l):x=r∨x∈l:=mem_put h
def RqInv (l:List RT) (S L:Int→Int):Prop:=∀ a∈l,a.1.slice=L (idR a)∧a.1.left=L (idR a) - S (idR a)
def stepS (S:Int→Int) (p:Pr):Int→Int:=fun i=>if i=p.id then (bif p.done then 0 else S i+p.ns) else S i
def PartsOk (L:Int→Int):(Int→Int)→List Pr→Prop
  | _,[]=>True
  | S,p :: ps=>In64 p.id∧p.done=decide (S p.id+p.ns=L p.id)∧(0≤S p.id∧0≤p.ns∧S p.id+p.ns≤L p.id∧L p.id≤1099511627776)∧PartsOk L (stepS S p) ps
def foldS (S:Int→Int) (ps:List Pr):Int→Int:=ps.foldl stepS S
theorem RqInv.sub {l l':List RT} {S L:Int→Int} (h:RqInv l S L) (k:∀ x∈l',x∈l):RqInv l' S L:=fun a ha=>h a (k a ha)
theorem RqInv.put {l:List RT} {S L:Int→Int} {r a:RT} (h:RqInv l S L) (ha:a∈l) (hi:idR r=idR a) (h1:r.1.slice=a.1.slice) (h2:r.1.left=a.1.left):RqInv (putR r l) S L:=fun x hx=>by
  rcases mem_putR hx with rfl | hx
  · rw [hi,h1,h2];exact h a ha
  · exact h x hx
theorem flush_sub {s:Ss} {c:Cs} (h:Rep s c.A):∀ x∈(setC c).A.l,x∈c.A.l:=h.flushF.sub
theorem srv_full {c:Cs} {m:Int} {a:RT} (hg:getL c.A.l c.run=a.1) (m0:0≤m) (he:srvE c m=0):(srvY c m).1.slice=a.1.slice∧(srvY c m).1.left=(if a.1.left - srvN c m=0 then a.1.slice else a.1.left - srvN c m)∧(srvP c m).done=decide (a.1.left - srvN c m=0):=by
  cases e:srvO c m with
  | none =>
    have:srvE c m=2:=by unfold srvE srvY;rw [e];exact (put_zero _).1
    omega
  | some u =>
    have hu:=srvO_in m0 e
    have hy:srvY c m=toRT u.1:=by unfold srvY;rw [e]
    have hy1:(srvY c m).1=u.1:=by rw [hy];exact toRT_eq hu
    have hp:(srvP c m).done=u.2:=by unfold srvP;rw [e]
    rw [hy1,hp]
    unfold srvO serveR at e
    rw [hg] at e
    split at e
    · rename_i hc
      cases em:movP a.1.i.p (srvN c m*1048576) with
      | none=>rw [em] at e;cases e
      | some p =>
        rw [em] at e
        have e:(setR (lessR a.1 p (srvN c m))).map (fun u=>(u,decide (a.1.left - srvN c m=0)))=some u:=e
        cases es:setR (lessR a.1 p (srvN c m)) with
        | none=>rw [es] at e;cases e
        | some y =>
          rw [es] at e
          cases e
          unfold setR at es
          cases k2:(fixR (lessR a.1 p (srvN c m))).right with
          | false=>rw [k2] at es;cases es
          | true =>
            rw [k2] at es
            cases es
            have q1:(fixR (lessR a.1 p (srvN c m))).slice=a.1.slice:=by
              unfold fixR
              cases mayN (lessR a.1 p (srvN c m)).left <;> rfl
            have q2:(fixR (lessR a.1 p (srvN c m))).left=bif decide (a.1.left - srvN c m=0) then a.1.slice else a.1.left - srvN c m:=by
              unfold fixR
              cases mayN (lessR a.1 p (srvN c m)).left <;> rfl
            refine ⟨q1,?_,rfl⟩
            show (fixR (lessR a.1 p (srvN c m))).left=_
            rw [q2]
            by_cases z:a.1.left - srvN c m=0
            · rw [decide_eq_true z,if_pos z];rfl
            · rw [decide_eq_false z,if_neg z];rfl
    · cases e
theorem rq_part {s:Ss} {c:Cs} {m:Int} {S L:Int→Int} (h:Rep s c.A) (hI:InvC c) (hr:c.run≠0) (m0:0≤m) (he:srvE c m=0) (hS:∀ i,0≤S i) (hq:RqInv c.A.l S L) (hrun:In64 c.run) :
    PartsOk L S [srvP c m]∧RqInv (setC (srvA c m)).A.l (stepS S (srvP c m)) L∧∀ i,0≤stepS S (srvP c m) i:=by
  rcases hI with ⟨h1,_⟩ | ⟨a,ha,hra,hpos,haw,_⟩
  · exact absurd h1 hr
  have hg:getL c.A.l c.run=a.1:=by unfold getL;rw [hra,findR_at h.o ha]
  obtain ⟨p1,p2,p3,p4,p5⟩:=srv_parts hg m0 he
  obtain ⟨f1,f2,f3⟩:=srv_full hg m0 he
  obtain ⟨q1,q2⟩:=hq a ha
  have hl:=right_left (h.r a ha)
  have eid:(srvP c m).id=idR a:=hra
  have ens:(srvP c m).ns=srvN c m:=rfl
  have hid:idR (srvY c m)=idR a:=p1
  have h0:=hS (idR a)
  have hdn:(srvP c m).done=decide (S (idR a)+srvN c m=L (idR a)):=by rw [f3];exact decide_eq_decide.2 (by omega)
  refine ⟨⟨by rw [eid,← hra];exact hrun,by rw [eid,ens];exact hdn,by rw [eid,ens];omega,trivial⟩,fun x hx=>?_,fun i=>?_⟩
  · obtain ⟨s1,hs1⟩:=rep_srv h m
    have hx:=flush_sub hs1 x hx
    have hx:x∈(putA c.A (srvY c m)).l:=hx
    rw [put_l he] at hx
    rcases List.mem_cons.1 ((put_perm2 h.o).mem_iff.1 hx) with rfl | k
    · rw [f1,f2,hid]
      refine ⟨q1,?_⟩
      have est:stepS S (srvP c m) (idR a)=if S (idR a)+srvN c m=L (idR a) then 0 else S (idR a)+srvN c m:=by
        unfold stepS
        rw [eid,if_pos rfl,hdn,ens]
        by_cases z:S (idR a)+srvN c m=L (idR a)
        · rw [decide_eq_true z,if_pos z];rfl
        · rw [decide_eq_false z,if_neg z];rfl
      rw [est]
      by_cases z:S (idR a)+srvN c m=L (idR a)
      · rw [if_pos z,if_pos (by omega),q1];omega
      · rw [if_neg z,if_neg (by omega)];omega
    · obtain ⟨k1,k2⟩:=del_sub x k
      have est:stepS S (srvP c m) (idR x)=S (idR x):=by
        unfold stepS
        rw [if_neg (by rw [eid];intro e;exact k2 (by rw [hid];exact e))]
      rw [est]
      exact hq x k1
  · unfold stepS
    split
    · cases (srvP c m).done
      · show 0≤S i+(srvP c m).ns
        have:=hS i
        rw [ens];omega
      · exact Int.le_refl 0
    · exact hS i
theorem rq_tick:∀ (k:Nat) (left:Int) (c:Cs) (r:Rp) (S L:Int→Int),RepC c→InvC c→0≤left→left≤1099511627776→(∀ i,0≤S i)→RqInv c.A.l S L→In64 c.run→(tickN k left c r).1=0 →
    ∃ ps,(tickN k left c r).2.2.p=r.p ++ ps∧PartsOk L S ps∧RqInv (tickN k left c r).2.1.A.l (foldS S ps) L
  | 0,left,c,r,S,L,hR,hI,l0,l1,hS,hq,hrun,he=>⟨[],by simp [tickN],trivial,hq⟩
  | k+1,left,c,r,S,L,hR,hI,l0,l1,hS,hq,hrun,he=>by
    unfold tickN at he ⊢
    by_cases hc:0 < left∧c.run≠0
    · rw [if_pos hc] at he ⊢
      by_cases hs:srvE c left=0
      · rw [if_pos hs] at he ⊢
        obtain ⟨s,hs'⟩:=hR
        obtain ⟨s1,h1⟩:=rep_srv hs' left
        have hst:=srv_step (c:=c) (most:=left) ⟨l0,by omega⟩ hs
        obtain ⟨p1,p2,p3⟩:=rq_part hs' hI hc.2 l0 hs hS hq hrun
        have hrun2:In64 (setC (srvA c left)).run:=soonId_in h1
        obtain ⟨ps,q1,q2,q3⟩:=rq_tick k (left - srvN c left) (setC (srvA c left)) (srvR c left r) (stepS S (srvP c left)) L (repC_set ⟨s1,h1⟩) (inv_set h1) (by omega) (by omega) p3 p2 hrun2 he
        exact ⟨srvP c left :: ps,by rw [q1];show (r.p ++ [srvP c left]) ++ ps=_;simp,⟨p1.1,p1.2.1,p1.2.2.1,q2⟩,q3⟩
      · rw [if_neg hs] at he
        exact absurd he hs
    · rw [if_neg hc]
      exact ⟨[],by simp,trivial,hq⟩
def joinS (S:Int→Int) (c:Cs) (a:Ac18):Int→Int:=fun i=>if (doC c a).1=0∧a.d % 10 < 2∧i=a.id then 0 else S i
def joinL (L:Int→Int) (c:Cs) (a:Ac18):Int→Int:=fun i=>if (doC c a).1=0∧a.d % 10 < 2∧i=a.id then a.ns else L i
end Go.Proofs.YtkbcfknnieggbaaGreatDoorX

namespace Go.Proofs.YtkbcfknnieggbaaGreatDoorX
open Go Go.RowKit
theorem foldS_nn {L:Int→Int}:∀ {ps:List Pr} {S:Int→Int},PartsOk L S ps→(∀ i,0≤S i)→∀ i,0≤foldS S ps i
  | [],_,_,h=>h
  | p :: ps,S,h,hS=>foldS_nn (S:=stepS S p) h.2.2.2 (fun i=>by
    unfold stepS
    split
    · cases p.done
      · show 0≤S i+p.ns
        have:=hS i
        have:=h.2.2.1.2.1
        omega
      · exact Int.le_refl 0
    · exact hS i)
theorem rq_rou {A:As} {S L:Int→Int} (h:RqInv A.l S L) (id:Int) (b:Bool):RqInv (rouA A id b).l S L:=by
  unfold rouA
  cases e:findR A.l id with
  | none=>exact h
  | some a=>exact h.put (findR_some e).1 rfl rfl rfl
theorem rq_leave {c:Cs} {S L:Int→Int} (h:RqInv c.A.l S L) (id:Int):RqInv (leaveC c id).2.A.l S L:=by
  unfold leaveC
  split
  · rename_i k
    show RqInv (extA c.A id).l S L
    unfold extA
    rw [if_pos k]
    exact h.sub fun x hx=>(del_sub x hx).1
  · exact h
theorem rq_sleep {c:Cs} {S L:Int→Int} (h:RqInv c.A.l S L) (id:Int):RqInv (sleepC c id).2.A.l S L:=by
  unfold sleepC
  cases findR c.A.l id with
  | none=>exact h
  | some a =>
    show RqInv (if a.1.asleep=true then (6,c) else if owedA c.A id < 0 then (0,(⟨rouA c.A id true,c.run,c.carr⟩:Cs)) else leaveC c id).2.A.l S L
    split
    · exact h
    · split
      · exact rq_rou h id true
      · exact rq_leave h id
theorem rq_wake {c:Cs} {S L:Int→Int} (h:RqInv c.A.l S L) (id:Int):RqInv (wakeC c id).2.A.l S L:=by
  unfold wakeC
  cases findR c.A.l id with
  | none=>exact h
  | some a =>
    show RqInv (if a.1.asleep=true then (0,(⟨rouA c.A id false,c.run,c.carr⟩:Cs)) else (6,c)).2.A.l S L
    split
    · exact rq_rou h id false
    · exact h
theorem move_req {r y:Rq} {p:Pt} (h:moveR r p=some y):y.left=r.left∧y.slice=r.slice:=by
  unfold moveR at h
  cases k:r.right with
  | false=>rw [k] at h;cases h
  | true =>
    rw [k] at h
    have h:setR ⟨⟨p,r.i.id,r.i.d⟩,r.left,r.slice,r.asleep⟩=some y:=h
    unfold setR at h
    cases k2:(fixR ⟨⟨p,r.i.id,r.i.d⟩,r.left,r.slice,r.asleep⟩).right with
    | false=>rw [k2] at h;cases h
    | true =>
      rw [k2] at h
      cases h
      unfold fixR
      simp only
      cases mayN r.left <;> exact ⟨rfl,rfl⟩
theorem rq_weigh {c:Cs} {S L:Int→Int} (h:RqInv c.A.l S L) (id q:Int):RqInv (weighC c id q).2.A.l S L:=by
  unfold weighC
  split
  · exact h
  · cases e:findR c.A.l id with
    | none=>exact h
    | some a =>
      show RqInv (weighS c id (weighOk c.A a.1 q)).2.A.l S L
      have ha:=(findR_some e).1
      cases ew:weighOk c.A a.1 q with
      | none=>exact h
      | some y =>
        show RqInv (putA c.A (toRT y)).l S L
        by_cases e0:putE c.A (toRT y)=0
        · rw [put_l e0]
          unfold weighOk at ew
          cases em:weM (mA c.A) a.1.i.p q with
          | none=>rw [em] at ew;cases ew
          | some p =>
            rw [em] at ew
            have ew:moveR a.1 p=some y:=ew
            have hy:=move_in a.2 (weM_in em) ew
            have ey:(toRT y).1=y:=toRT_eq hy
            obtain ⟨_,k2⟩:=move_keeps ew
            obtain ⟨k3,k4⟩:=move_req ew
            exact h.put ha (by show (toRT y).1.i.id=a.1.i.id;rw [ey,k2]) (by rw [ey,k4]) (by rw [ey,k3])
        · unfold putA
          rw [if_neg e0];exact h
theorem new_req {p:Pt} {id n:Int} {y:Rq} (h:newR p id n=some y):y.left=n∧y.slice=n∧y.i.id=id:=by
  unfold newR setR at h
  cases k2:(fixR ⟨⟨p,id,.zero⟩,n,n,false⟩).right with
  | false=>rw [k2] at h;cases h
  | true =>
    rw [k2] at h
    cases h
    unfold fixR
    simp only
    cases mayN n <;> exact ⟨rfl,rfl,rfl⟩
theorem rq_join {s:Ss} {c:Cs} {S L S' L':Int→Int} {id q ns lag:Int} (hs:Rep s c.A) (h:RqInv c.A.l S L) (he:(joinC c id q ns lag).1=0) (hS:∀ i,S' i=if i=id then 0 else S i) (hL:∀ i,L' i=if i=id then ns else L i):RqInv (joinC c id q ns lag).2.A.l S' L':=by
  unfold joinC at he ⊢
  split at he
  · cases he
  · rename_i c1
    rw [if_neg c1]
    split at he
    · cases he
    · rename_i c2
      rw [if_neg c2]
      split at he
      · cases he
      · rename_i c3
        rw [if_neg c3]
        cases ej:joinOk c id q ns lag with
        | none=>rw [ej] at he;cases he
        | some r =>
          rw [ej] at he
          have he:(if entE c.A r=0 then (0,(⟨entA c.A r,c.run,carryW c.carr (lagA (entA c.A r) id)⟩:Cs)) else (entE c.A r,c)).1=0:=he
          show RqInv (if entE c.A r=0 then (0,(⟨entA c.A r,c.run,carryW c.carr (lagA (entA c.A r) id)⟩:Cs)) else (entE c.A r,c)).2.A.l S' L'
          by_cases e0:entE c.A r=0
          · rw [if_pos e0]
            show RqInv (entA c.A r).l S' L'
            have hl:(entA c.A r).l=putR r c.A.l:=by unfold entA;rw [if_pos e0]
            rw [hl]
            obtain ⟨hr,hn,_⟩:=enter_win hs e0
            have hreq:r.1.left=ns∧r.1.slice=ns∧idR r=id:=by
              unfold joinOk at ej
              cases ep:placeA c.A q lag with
              | none=>rw [ep] at ej;cases ej
              | some p =>
                rw [ep] at ej
                have ej:(newR p id ns).map toRT=some r:=ej
                cases en:newR p id ns with
                | none=>rw [en] at ej;cases ej
                | some y =>
                  rw [en] at ej
                  have ej:toRT y=r:=Option.some.inj ej
                  rw [← ej] at hr ⊢
                  unfold toRT at hr ⊢
                  split at hr
                  · rename_i hin
                    unfold idR
                    rw [dif_pos hin]
                    exact new_req en
                  · exact absurd hr (by decide)
            intro x hx
            rcases mem_putR hx with rfl | hx
            · rw [hS,hL,hreq.2.2,if_pos rfl,if_pos rfl,hreq.1,hreq.2.1]
              exact ⟨rfl,by omega⟩
            · have hne:idR x≠id:=fun e=>by
                have:=findR_mem hx
                rw [e,← hreq.2.2,hn] at this
                cases this
              rw [hS,hL,if_neg hne,if_neg hne]
              exact h x hx
          · rw [if_neg e0] at he
            exact absurd he e0
theorem rq_act {c:Cs} {a:Ac18} {S L:Int→Int} (hR:RepC c) (hI:InvC c) (ha:a.In) (h6:a.d % 10≠6) (hS:∀ i,0≤S i) (hq:RqInv c.A.l S L) (hrun:In64 c.run) :
    PartsOk (joinL L c a) (joinS S c a) (partsOf c a)∧RqInv (tryC c (doC c a).1 (doC c a).2.1).A.l (foldS (joinS S c a) (partsOf c a)) (joinL L c a):=by
  have hd:=ha.1
  by_cases e:(doC c a).1=0
  · have ec:tryC c (doC c a).1 (doC c a).2.1=setC (doC c a).2.1:=if_pos e
    obtain ⟨s,hs⟩:=repC_do hR a
    rw [ec]
    suffices H:PartsOk (joinL L c a) (joinS S c a) (partsOf c a)∧RqInv (doC c a).2.1.A.l (foldS (joinS S c a) (partsOf c a)) (joinL L c a) from ⟨H.1,H.2.sub (flush_sub hs)⟩
    by_cases ht:6 < a.d % 10
    · have eS:joinS S c a=S:=by funext i;unfold joinS;rw [if_neg (by omega)]
      have eL:joinL L c a=L:=by funext i;unfold joinL;rw [if_neg (by omega)]
      rw [eS,eL]
      have ep:partsOf c a=(doC c a).2.2.p:=by unfold partsOf tryR;rw [if_pos e]
      rw [ep]
      rw [tickd ha ht] at e ⊢
      unfold tickC at e ⊢
      by_cases hc:1≤a.ns∧a.ns≤1099511627776
      · rw [if_pos hc] at e ⊢
        obtain ⟨ps,q1,q2,q3⟩:=rq_tick _ _ _ Rp.none S L hR hI (by omega) hc.2 hS hq hrun e
        have q1:(tickN (a.ns.toNat+1) a.ns c .none).2.2.p=ps:=by rw [q1];rfl
        rw [q1]
        exact ⟨q2,q3⟩
      · rw [if_neg hc] at e
        cases e
    · have ep:partsOf c a=[]:=parts_none (by omega) hd.1
      rw [ep]
      refine ⟨trivial,?_⟩
      show RqInv (doC c a).2.1.A.l (joinS S c a) (joinL L c a)
      by_cases c1:a.d % 10 < 2
      · have ed:doC c a=((joinC c a.id a.w a.ns a.lag).1,(joinC c a.id a.w a.ns a.lag).2,.none):=by unfold doC;rw [if_pos c1]
        obtain ⟨s0,hs0⟩:=hR
        have e':=e
        rw [ed] at e'
        have:RqInv (joinC c a.id a.w a.ns a.lag).2.A.l (joinS S c a) (joinL L c a):=rq_join hs0 hq e' (fun i=>by
          unfold joinS
          by_cases k:i=a.id
          · rw [if_pos ⟨e,c1,k⟩,if_pos k]
          · rw [if_neg (fun h=>k h.2.2),if_neg k]) (fun i=>by
          unfold joinL
          by_cases k:i=a.id
          · rw [if_pos ⟨e,c1,k⟩,if_pos k]
          · rw [if_neg (fun h=>k h.2.2),if_neg k])
        rw [ed]
        exact this
      · have eS:joinS S c a=S:=by funext i;unfold joinS;rw [if_neg (fun h=>c1 h.2.1)]
        have eL:joinL L c a=L:=by funext i;unfold joinL;rw [if_neg (fun h=>c1 h.2.1)]
        rw [eS,eL]
        unfold doC
        rw [if_neg c1]
        by_cases c2:a.d % 10=2
        · rw [if_pos c2];exact rq_leave hq _
        rw [if_neg c2]
        by_cases c3:a.d % 10=3
        · rw [if_pos c3];exact rq_sleep hq _
        rw [if_neg c3]
        by_cases c4:a.d % 10=4
        · rw [if_pos c4];exact rq_wake hq _
        rw [if_neg c4]
        by_cases c5:a.d % 10=5
        · rw [if_pos c5];exact rq_weigh hq _ _
        omega
  · have ec:tryC c (doC c a).1 (doC c a).2.1=c:=if_neg e
    have eS:joinS S c a=S:=by funext i;unfold joinS;rw [if_neg (fun h=>e h.1)]
    have eL:joinL L c a=L:=by funext i;unfold joinL;rw [if_neg (fun h=>e h.1)]
    have ep:partsOf c a=[]:=by unfold partsOf tryR;rw [if_neg e];rfl
    rw [ec,eS,eL,ep]
    exact ⟨trivial,hq⟩
end Go.Proofs.YtkbcfknnieggbaaGreatDoorX

namespace Go.Proofs.YtkbcfknnieggbaaGreatDoorX
open Go Go.RowKit
attribute [local irreducible] XS XC XA thenE blockE retE loopE loopS cutB cutN doneE SE
theorem ls_rq {w:World} {v:Value} {l:List RT} {G:List Nat} (h:SlV w 51 10 v l.length (flatR l) G):∃ ad cap,v = .slice ad l.length cap∧(l≠[]→∃ (b off:Nat) (cs:List Value) (E:TypeId) (fz:Nat × Nat),ad=some ⟨b,off,none⟩∧w.heap[b]?=some (.cells cs.toArray E fz)∧∀ (i:Nat) (x:RT),l[i]?=some x→Pick cs (off+i*10) 10 x.1.cells):=by
  obtain ⟨ad,cap,rfl,hD⟩:=(rs_rq h).x
  refine ⟨ad,cap,by rw [List.length_map,List.length_map],fun hn=>?_⟩
  obtain ⟨b,off,cs,E,fz,h1,h2,h3⟩:=hD (fun k=>hn (List.map_eq_nil_iff.1 (List.map_eq_nil_iff.1 k)))
  exact ⟨b,off,cs,E,fz,h1,h2,fun i x hx=>h3 i _ (by rw [List.getElem?_map,List.getElem?_map,hx];rfl)⟩
end Go.Proofs.YtkbcfknnieggbaaGreatDoorX

namespace Go.Proofs.YtkbcfknnieggbaaGreatDoorX
open Go Go.RowKit
attribute [local irreducible] XS XC XA thenE blockE retE loopE loopS cutB cutN doneE SE
theorem ls_pr {w:World} {v:Value} {l:List Pr} {G:List Nat} (h:SlP w v l G):∃ ad cap,v = .slice ad l.length cap∧(l≠[]→∃ (b off:Nat) (cs:List Value) (E:TypeId) (fz:Nat × Nat),ad=some ⟨b,off,none⟩∧w.heap[b]?=some (.cells cs.toArray E fz)∧∀ (i:Nat) (x:Pr),l[i]?=some x→Pick cs (off+i*3) 3 x.cells):=by
  obtain ⟨ad,cap,rfl,hD⟩:=(SlV.ls h (xs:=l.map Pr.cells) rfl (List.length_map _).symm (fun x hx=>by obtain ⟨y,_,rfl⟩:=List.mem_map.1 hx;rfl)).x
  refine ⟨ad,cap,by rw [List.length_map],fun hn=>?_⟩
  obtain ⟨b,off,cs,E,fz,h1,h2,h3⟩:=hD (fun k=>hn (List.map_eq_nil_iff.1 k))
  exact ⟨b,off,cs,E,fz,h1,h2,fun i x hx=>h3 i _ (by rw [List.getElem?_map,hx];rfl)⟩
end Go.Proofs.YtkbcfknnieggbaaGreatDoorX

namespace Go.Proofs.YtkbcfknnieggbaaGreatDoorX
open Go Go.RowKit
attribute [local irreducible] XS XC XA thenE blockE retE loopE loopS cutB cutN doneE SE
theorem fin_le {c i j K:Nat} (h:c≤i*K+1+2*j) (h2:2*j+1≤K):c≤(i+1)*K:=by rw [Nat.add_mul];omega
def numF (f:Int→Option Value) (S:Int→Int):Prop:=∀ i,(f i).getD (.int .u64 0) = .int .u64 (S i)
theorem numF.put {f:Int→Option Value} {S S':Int→Int} (h:numF f S) {i x:Int} (hS:∀ j,S' j=if j=i then x else S j):numF (updF f i (some (.int .u64 x))) S':=fun j=>by
  unfold updF
  rw [hS]
  by_cases e:j=i
  · rw [if_pos e,decide_eq_true e];rfl
  · rw [if_neg e,decide_eq_false e];exact h j
theorem zero_u64:(Tryz.prog.info? 22).bind (·.zero)=some (.int .u64 0):=by kernel_rfl
theorem map_ty:Tryz.prog.underlying 66=some (.map 3 22):=by kernel_rfl
theorem parts_at {L:Int→Int}:∀ {l:List Pr} {S:Int→Int} {i:Nat} (h:i < l.length),PartsOk L S l→In64 l[i].id∧l[i].done=decide (foldS S (l.take i) l[i].id+l[i].ns=L l[i].id)∧0≤foldS S (l.take i) l[i].id∧0≤l[i].ns∧foldS S (l.take i) l[i].id+l[i].ns≤L l[i].id∧L l[i].id≤1099511627776
  | p :: l,S,0,_,hP=>⟨hP.1,hP.2.1,hP.2.2.1.1,hP.2.2.1.2.1,hP.2.2.1.2.2.1,hP.2.2.1.2.2.2⟩
  | p :: l,S,i+1,h,hP=>parts_at (S:=stepS S p) (l:=l) (i:=i) (by simpa using h) hP.2.2.2
theorem fold_next {l:List Pr} {i:Nat} (h:i < l.length) (S:Int→Int):foldS S (l.take (i+1))=stepS (foldS S (l.take i)) l[i]:=by
  rw [show l.take (i+1)=l.take i ++ [l[i]] by simp]
  unfold foldS
  rw [List.foldl_append];rfl
set_option maxHeartbeats 16000000 in
theorem coreRequests_ret (clock:Int) (xs:List Ac18) (sl:Value) (hc0:U64 clock) (hx:∀ a∈xs,a.In) (w0:World) (hL:LsX w0 5 sl (xs.map Ac18.cells)) (ht:Pows w0):Ret Tryz.prog 4 #[.int .u64 clock,sl] w0 fun v w'=>v = .bool true∧Only [] w0 w':=by
  have hL0:=hL
  obtain ⟨ad,cap,rfl,hD⟩:=hL
  rw [List.length_map] at hL0 ⊢
  have hs:=St.nil w0
  refine ret_of_xc Tryz.func4 (by kernel_rfl) rfl Tryz.ntmps4 rfl rfl rfl ?_
  repeat' (first|refine vs (k:=?_)|refine qRg ?_|refine Nx.h ?_|fail)
  (with_reducible apply xs_call);exact rfl;exact rfl;exact awake18_ret _ (tab_only ht (hs.only0 rfl))
  rintro v w' ⟨rfl,ho⟩;replace hs:=hs.call0 ho;repeat' (first|refine vs (k:=?_)|refine qRg ?_|refine Nx.h ?_|refine qCf ?_|fail)
  (with_reducible apply xs_call);exact rfl;exact rfl;exact light_ret xs _ hx _ (hL0.only (hs.only0 rfl))
  rintro v w1 ⟨⟨bl,rfl,hbl⟩,ho1⟩;replace hs:=hs.call0 ho1
  cases bl with
  | false =>
    repeat' (first|refine vs (k:=?_)|refine qRg ?_|refine Nx.h ?_|refine qCt ?_|fail)
    first | refine rt (hq:=?_) | refine rt' (hq:=?_)
    exact ⟨rfl,hs.only0 rfl⟩
  | true =>
  have hm:=hbl rfl
  repeat' (first|refine vs (k:=?_)|refine qRg ?_|refine Nx.h ?_|refine qCf ?_|fail)
  have hoB:=hs.only0 rfl
  (with_reducible apply xs_call);exact rfl;exact rfl;exact cnew_ret clock hc0 _
  rintro v w2 ⟨⟨cb,F1,rfl,hC1,hF1⟩,ho2⟩
  have hoA:=hoB.trans ho2
  have hzB:=hoB.size
  have hF1':∀ k∈F1,w0.heap.size≤k:=fun k hk=>by have:=hF1 k hk;omega
  clear hs
  have hs:=St.nil w2
  repeat' (first|refine vs (k:=?_)|refine qRg ?_|refine Nx.h ?_|fail)
  have hoB2:=hs.only0 rfl
  have hC1:=hC1.only hoB2
  refine xs_mapNew (k:=?_);intro mb w3 ho3 hM3 hb3
  clear hs
  have hs:=St.nil w3
  refine xs_mapNew (k:=?_);intro nb w4 ho4 hN4 hb4
  have hoM:=((hoA.trans hoB2).trans ho3).trans ho4
  have hC4:=(hC1.only ho3).only ho4
  have hM4:=hM3.keep ho4 (by simp)
  have hz3:=ho3.size
  have hlm:=hM3.lt
  have hmn:nb≠mb:=by omega
  have hgm:w0.heap.size≤mb:=by have:=(hoA.trans hoB2).size;omega
  have hgn:w0.heap.size≤nb:=by have:=(hoA.trans hoB2).size;omega
  clear hs
  have hs:=St.nil w4
  repeat' (first|refine vs (k:=?_)|refine qRg ?_|refine Nx.h ?_|fail)
  refine xc_cutB (fun (_:Unit)=>[]) (fun _ w=>Only [] w0 w) ?_ ?_
  · refine xc_loopS (fun (x:Nat × List Nat × Cs × (Int→Option Value) × Nat × (Int→Option Value) × Nat × (Int→Int) × (Int→Int))=>[(5,.pointer (some ⟨cb,0,none⟩)),(6,.map (some mb)),(7,.map (some nb)),(25,.slice ad xs.length cap),(26,.int .i64 (xs.length:Nat)),(27,.int .i64 (x.1:Nat))])
      (fun x w=>x.1≤xs.length∧CAt w cb x.2.2.1 x.2.1∧(∀ k∈x.2.1,w0.heap.size≤k∧k≠mb∧k≠nb)∧Only [] w0 w∧InvC x.2.2.1∧(MapAt w mb x.2.2.2.1 x.2.2.2.2.1∧MapAt w nb x.2.2.2.2.2.1 x.2.2.2.2.2.2.1)∧(x.2.2.2.2.1≤x.1*3000000000000∧x.2.2.2.2.2.2.1≤x.1)∧(numF x.2.2.2.1 x.2.2.2.2.2.2.2.1∧numF x.2.2.2.2.2.1 x.2.2.2.2.2.2.2.2)∧(∀ i,0≤x.2.2.2.2.2.2.2.1 i)∧RqInv x.2.2.1.A.l x.2.2.2.2.2.2.2.1 x.2.2.2.2.2.2.2.2) (fun x=>xs.length - x.1) (0,F1,newC clock,(fun _=>none),0,(fun _=>none),0,(fun _=>0),(fun _=>0)) (by (repeat (first | exact agree_nil | (apply agree_cons;exact rfl)))) ⟨Nat.zero_le _,hC4.only (hs.only0 rfl),(fun k hk=>⟨hF1' k hk,by have:=(hC1.lt k hk);omega,by have:=(hC1.lt k hk);omega⟩),hoM.trans (hs.only0 rfl),InvC.new clock,⟨hM4.keep (hs.only0 rfl) (by simp),hN4.keep (hs.only0 rfl) (by simp)⟩,⟨Nat.zero_le _,Nat.zero_le _⟩,⟨fun _=>rfl,fun _=>rfl⟩,fun _=>Int.le_refl 0,fun a ha=>by cases ha⟩ fun x env wl ⟨hi,hC,hF,hoL,hI,hMM,hcc,hnn,hSS,hRq⟩=>?_
    obtain ⟨i,F,c,f,fc,g,gc,S,L⟩:=x
    simp only at hi hC hF hI hMM hcc hnn hSS hRq
    obtain ⟨hM,hN⟩:=hMM
    clear hs
    have hs:=St.nil wl
    repeat' (first|refine vs (k:=?_)|refine qRg ?_|refine Nx.h ?_|(refine xc_if rfl (fun hc=>?_) (fun hc=>?_))|fail)
    · have hlt:i < xs.length:=by omega
      obtain ⟨b0,off,cs,E,fz,rfl,hb,hcs⟩:=hD (fun h=>by have:=congrArg List.length h;rw [List.length_map,List.length_nil] at this;omega)
      have hpk:=hcs i (Ac18.cells xs[i]) (by rw [List.getElem?_map,List.getElem?_eq_getElem hlt];rfl)
      have ei:=nx64 (m:=xs.length) hlt (by omega)
      have hq:=hx xs[i] (List.getElem_mem hlt)
      generalize xs[i]=q at *
      have hRc:RepC c:=hC.repS
      have hrr:In64 c.run:=by obtain ⟨_,_,_,_,_,_,hr⟩:=hC;exact hr
      have hI2:InvC (tryC c (doC c q).1 (doC c q).2.1):=inv_acts hRc hI q
      refine ix (h0:=(by omega)) (h1:=(by omega)) (k:=?_)
      refine lhK (vs:=q.cells) (hoL.block hb (by simp)) hpk (k:=?_)
      refine al hs (k:=?_);clear hs;intro b7 w5 hz5 hs
      refine stA hs (k:=?_);clear hs;intro w6 hs
      repeat' (first|refine vs (k:=?_)|refine qRg ?_|refine Nx.h ?_|fail)
      have d0:=hq.1
      refine rem8 (b:=10) d0.1 (by decide) (k:=?_)
      refine vs (k:=?_)
      by_cases h6:q.d % 10=6
      · rw [show (q.d % 10 == 6)=true by simpa using h6]
        repeat' (first|refine vs (k:=?_)|refine qRg ?_|refine Nx.h ?_|refine qCt ?_|fail)
        have hoz:=hs.only0 rfl
        refine loopS_next (i+1,F,c,f,fc,g,gc,S,L) (by show xs.length - (i+1) < xs.length - i;omega) (by (repeat (first | exact agree_nil | (apply agree_cons;first | exact rfl | exact congrArg (Value.int .i64) ei)))) ⟨by show i+1≤_;omega,hC.only hoz,hF,hoL.trans hoz,hI,⟨hM.keep hoz (by simp),hN.keep hoz (by simp)⟩,⟨by show fc≤(i+1)*3000000000000;omega,by show gc≤i+1;omega⟩,hnn,hSS,hRq⟩
      rw [show (q.d % 10 == 6)=false by simpa using h6]
      obtain ⟨hPO,hRq2⟩:=rq_act hRc hI hq h6 hSS hRq hrr
      have hSS2:=foldS_nn hPO (fun i=>by
        unfold joinS
        split
        · exact Int.le_refl 0
        · exact hSS i)
      repeat' (first|refine vs (k:=?_)|refine qRg ?_|refine Nx.h ?_|refine qCf ?_|fail)
      have ho4:=hs.only0 rfl
      have h7:=hs.get (b:=b7) (by repeat (first | exact At.head | (with_reducible apply At.tail)))
      have g7:=hs.new (b7,true) (by simp) rfl
      simp only at g7
      (with_reducible apply xs_call);exact rfl;exact rfl;exact act_ret cb c F q hq _ (hC.only ho4)
      rintro v w7 ⟨rv,rfl,T⟩
      obtain ⟨⟨vg,vp,Gg,Gp,rfl,p1,p2⟩,⟨F',hC7,hF7⟩,ho7⟩:=T
      obtain ⟨ag,cg,rfl⟩:=slv_form p1
      have n7:b7≠cb:=fun e=>by have:=hC.lt cb hC.mem;omega
      have k7:=ho7.block h7 (by simp [n7])
      have hz4:=ho4.size
      have hzL:=hoL.size
      have hoA7:Only [] w0 w7:=(hoL.trans ho4).step ho7 (fun k hk => .inr (by obtain rfl:=List.mem_singleton.1 hk;exact (hF _ hC.mem).1))
      have hlM:=hM.lt
      have hlN:=hN.lt
      have hF':∀ k∈F',w0.heap.size≤k∧k≠mb∧k≠nb:=fun k hk=>by
        rcases hF7 k hk with h | h
        · exact hF k h
        · omega
      obtain ⟨_,_,_,_,_,hcbo,_⟩:=hC.opn
      have ncm:cb≠mb:=hM.ne hcbo
      have ncn:cb≠nb:=hN.ne hcbo
      have hM7:=(hM.keep ho4 (by simp)).keep ho7 (by simpa using ncm.symm)
      have hN7:=(hN.keep ho4 (by simp)).keep ho7 (by simpa using ncn.symm)
      have hnl:(partsOf c q).length≤1099511627776:=by
        by_cases h:6 < q.d % 10
        · unfold partsOf tryR
          split
          · rw [tickd hq h] at *
            show (tickC c q.ns).2.2.p.length≤_
            unfold tickC
            split
            · rename_i hcc
              have:=tick_parts (q.ns.toNat+1) q.ns c .none (by omega) hcc.2
              have e1:Rp.none.p.length=0:=rfl
              rw [e1] at this
              omega
            · exact Nat.zero_le _
          · exact Nat.zero_le _
        · rw [parts_none (by omega) hq.1.1];exact Nat.zero_le _
      have p2:SlP w7 vp (partsOf c q) Gp:=p2
      obtain ⟨ap,cp,rfl,hP⟩:=ls_pr p2
      have hS':∀ j,joinS S c q j=if (doC c q).1=0∧q.d % 10 < 2∧j=q.id then 0 else S j:=fun _=>rfl
      have hL':∀ j,joinL L c q j=if (doC c q).1=0∧q.d % 10 < 2∧j=q.id then q.ns else L j:=fun _=>rfl
      generalize (tryR (doC c q).1 (doC c q).2.1 (doC c q).2.2).g.length=ng at *
      generalize partsOf c q=pl at *
      generalize joinS S c q=S1 at *
      generalize joinL L c q=L1 at *
      generalize (doC c q).1=e at *
      generalize tryC c e (doC c q).2.1=c2 at *
      clear hs
      have hs:=(St.nil w7).trackT k7
      repeat' (first|refine vs (k:=?_)|(refine stA hs (k:=?_);intro w hs)|(refine al hs (k:=?_);intro b w hz hs)|refine Nx.h ?_|fail)
      have h10:=hs.get (b:=b) (by repeat (first | exact At.head | (with_reducible apply At.tail)))
      have oP:=hs.onlyF [] (by simp [k7]) (by simp [D0])
      have k7':=oP.block k7 (by simp)
      have hM8:=hM7.keep oP (by simp)
      have hN8:=hN7.keep oP (by simp)
      refine xc_cutN (fun (_:Unit)=>[(5,.pointer (some ⟨cb,0,none⟩)),(6,.map (some mb)),(7,.map (some nb)),(9,.pointer (some ⟨b7,0,none⟩)),(10,.pointer (some ⟨b,0,none⟩)),(48,.bool ((e == 0) && decide (q.d % 10 < 2))),(25,.slice (some ⟨b0,off,none⟩) xs.length cap),(26,.int .i64 (xs.length:Nat)),(27,.int .i64 (i:Nat))]) (fun _ w'=>Only [] w w') ?_ ?_
      · refine xc_region ?_ ?_;exact rfl
        refine vs (k:=?_)
        refine vs (k:=?_)
        cases he:(e == 0)
        · repeat' (first|refine vs (k:=?_)|refine ps (k:=?_)|refine Nx.h ?_|fail)
          exact cutN_normal () (by (repeat (first | exact agree_nil | (apply agree_cons;exact rfl)))) ((St.nil _).only0 rfl)
        · repeat' (first|refine vs (k:=?_)|fail)
          refine rem8 (b:=10) d0.1 (by decide) (k:=?_)
          repeat' (first|refine vs (k:=?_)|refine Nx.h ?_|fail)
          exact cutN_normal () (by (repeat (first | exact agree_nil | (apply agree_cons;exact rfl)))) ((St.nil _).only0 rfl)
      rintro _ env w9 ho9
      have k9:=ho9.block k7' (by simp)
      have h10:=ho9.block h10 (by simp)
      have hM9:=hM8.keep ho9 (by simp)
      have hN9:=hN8.keep ho9 (by simp)
      have hC9:=(hC7.only oP).only ho9
      have hP9:=fun hne=>hP hne
      have o79:=oP.trans ho9
      have hoA9:=hoA7.trans o79
      clear hs
      have hs:=(St.nil w9).trackT k9
      have n7m:b7≠mb:=hM9.ne k9
      have n7n:b7≠nb:=hN9.ne k9
      refine xc_cutN (fun (_:(Int→Option Value) × Nat × (Int→Option Value) × Nat)=>[(5,.pointer (some ⟨cb,0,none⟩)),(6,.map (some mb)),(7,.map (some nb)),(10,.pointer (some ⟨b,0,none⟩)),(25,.slice (some ⟨b0,off,none⟩) xs.length cap),(26,.int .i64 (xs.length:Nat)),(27,.int .i64 (i:Nat))]) (fun z w'=>MapAt w' mb z.1 z.2.1∧MapAt w' nb z.2.2.1 z.2.2.2∧(z.2.1≤i*3000000000000+1∧z.2.2.2≤i+1)∧numF z.1 S1∧numF z.2.2.1 L1∧Only [mb,nb] w9 w') ?_ ?_
      · by_cases g48:e=0∧q.d % 10 < 2
        · rw [show ((e == 0) && decide (q.d % 10 < 2))=true by simp [g48.1,g48.2]]
          repeat' (first|refine qCt ?_|fail)
          refine dr [] hs (k:=?_);intro hX w hs
          refine tk 0 hX (k:=?_)
          refine tk 1 hX (k:=?_)
          refine tk 2 hX (k:=?_)
          refine tk 3 hX (k:=?_)
          refine tk 4 hX (k:=?_)
          refine tk 5 hX (k:=?_)
          refine tk 6 hX (k:=?_)
          refine tk 7 hX (k:=?_)
          refine dt 8 hX (k:=?_)
          have oA:=hs.onlyF [] (by simp [k9]) (by simp [D0])
          refine xs_mapPut (hM9.keep oA (by simp)) hq.2.1 (by show fc < 9223372036854775807;omega) (e:=22) map_ty (k:=?_)
          intro w11 hM11 ho11
          have k11:=ho11.block (oA.block k9 (by simp)) (by simpa using n7m)
          have hN11:=(hN9.keep oA (by simp)).keep ho11 (by simpa using hmn)
          have oB:=(oA.weaken (G:=[mb,nb]) (by simp)).step ho11 (fun k hk => .inl (by simp [List.mem_singleton.1 hk]))
          clear hs
          have hs:=(St.nil w11).trackT k11
          refine XS.nil ?_
          refine dn (k:=?_)
          refine dt 9 hX (k:=?_)
          have oC:=hs.onlyF [] (by simp [k11]) (by simp [D0])
          refine xs_mapPut (hN11.keep oC (by simp)) hq.2.1 (by show gc < 9223372036854775807;omega) (e:=22) map_ty (k:=?_)
          intro w12 hN12 ho12
          have k12:=ho12.block (oC.block k11 (by simp)) (by simpa using n7n)
          have hM12:=(hM11.keep oC (by simp)).keep ho12 (by simpa using hmn.symm)
          have oD:=(oB.step oC (by simp)).step ho12 (fun k hk => .inl (by simp [List.mem_singleton.1 hk]))
          clear hs
          have hs:=(St.nil w12).trackT k12
          refine XS.nil ?_
          refine dn (k:=?_)
          refine en (k:=?_)
          skip
          have oE:=hs.onlyF [] (by simp [k12]) (by simp [D0])
          refine cutN_normal (updF f q.id (some (.int .u64 0)),_,updF g q.id (some (.int .u64 q.ns)),_) (by (repeat (first | exact agree_nil | (apply agree_cons;exact rfl)))) ⟨hM12.keep oE (by simp),hN12.keep oE (by simp),⟨by show (if (f q.id).isSome then fc else fc+1)≤_;split <;> omega,by show (if (g q.id).isSome then gc else gc+1)≤_;split <;> omega⟩,hnn.1.put fun j=>?_,hnn.2.put fun j=>?_,oD.step oE (by simp)⟩
          · rw [hS']
            by_cases k:j=q.id
            · rw [if_pos ⟨g48.1,g48.2,k⟩,if_pos k]
            · rw [if_neg (fun h=>k h.2.2),if_neg k]
          · rw [hL']
            by_cases k:j=q.id
            · rw [if_pos ⟨g48.1,g48.2,k⟩,if_pos k]
            · rw [if_neg (fun h=>k h.2.2),if_neg k]
        · rw [show ((e == 0) && decide (q.d % 10 < 2))=false by simpa using g48]
          repeat' (first|refine Nx.h ?_|refine qCf ?_|fail)
          have oE:=hs.onlyF [] (by simp [k9]) (by simp [D0])
          refine cutN_normal (f,fc,g,gc) (by (repeat (first | exact agree_nil | (apply agree_cons;exact rfl)))) ⟨hM9.keep oE (by simp),hN9.keep oE (by simp),⟨by show fc≤_;omega,by show gc≤_;omega⟩,fun j=>?_,fun j=>?_,oE.weaken (by simp)⟩
          · rw [hS',if_neg (fun h=>g48 ⟨h.1,h.2.1⟩)];exact hnn.1 j
          · rw [hL',if_neg (fun h=>g48 ⟨h.1,h.2.1⟩)];exact hnn.2 j
      rintro ⟨f1,fc1,g1,gc1⟩ env w13 ⟨hM13,hN13,hcc1,hf1,hg1,ho13⟩
      simp only at hM13 hN13 hcc1 hf1 hg1
      have n10m:b≠mb:=hM9.ne h10
      have n10n:b≠nb:=hN9.ne h10
      have h13:=ho13.block h10 (by simp [n10m,n10n])
      have hC13:=hC9.keepD ho13 (fun k hk hm=>by
        simp only [List.mem_cons,List.not_mem_nil,or_false] at hm
        rcases hm with rfl | rfl
        · exact (hF' _ hk).2.1 rfl
        · exact (hF' _ hk).2.2 rfl)
      have hoA13:Only [] w0 w13:=hoA9.step ho13 (fun k hk=>by
        simp only [List.mem_cons,List.not_mem_nil,or_false] at hk
        rcases hk with rfl | rfl
        · exact .inr hgm
        · exact .inr hgn)
      have hP13:pl≠[]→∃ (b off:Nat) (cs:List Value) (E:TypeId) (fz:Nat × Nat),ap=some ⟨b,off,none⟩∧w13.heap[b]?=some (.cells cs.toArray E fz)∧∀ (i:Nat) (x:Pr),pl[i]?=some x→Pick cs (off+i*3) 3 x.cells:=fun hne=>by
        obtain ⟨bb,o1,cs1,E1,f1x,e1,e2,e3⟩:=hP hne
        have e2:=o79.block e2 (by simp)
        exact ⟨bb,o1,cs1,E1,f1x,e1,ho13.block e2 (by simp [hM9.ne e2,hN9.ne e2]),e3⟩
      clear hs
      have hs:=(St.nil w13).trackT h13
      repeat' (first|refine vs (k:=?_)|refine qRg ?_|refine Nx.h ?_|fail)
      have oF:=hs.onlyF [] (by simp [h13]) (by simp [D0])
      refine xc_cutB (fun (_:(Int→Option Value) × Nat)=>[(5,.pointer (some ⟨cb,0,none⟩)),(6,.map (some mb)),(7,.map (some nb)),(25,.slice (some ⟨b0,off,none⟩) xs.length cap),(26,.int .i64 (xs.length:Nat)),(27,.int .i64 (i:Nat))]) (fun z w'=>MapAt w' mb z.1 z.2∧MapAt w' nb g1 gc1∧z.2≤(i+1)*3000000000000∧numF z.1 (foldS S1 pl)∧Only [mb] w13 w') ?_ ?_
      · refine xc_loopS (fun (x:Nat × (Int→Option Value) × Nat)=>[(5,.pointer (some ⟨cb,0,none⟩)),(6,.map (some mb)),(7,.map (some nb)),(25,.slice (some ⟨b0,off,none⟩) xs.length cap),(26,.int .i64 (xs.length:Nat)),(27,.int .i64 (i:Nat)),(58,.slice ap pl.length cp),(59,.int .i64 (pl.length:Nat)),(60,.int .i64 (x.1:Nat))])
          (fun x w'=>x.1≤pl.length∧MapAt w' mb x.2.1 x.2.2∧MapAt w' nb g1 gc1∧x.2.2≤i*3000000000000+1+2*x.1∧numF x.2.1 (foldS S1 (pl.take x.1))∧Only [mb] w13 w') (fun x=>pl.length - x.1) (0,f1,fc1) (by (repeat (first | exact agree_nil | (apply agree_cons;exact rfl)))) ⟨Nat.zero_le _,hM13.keep oF (by simp),hN13.keep oF (by simp),by show fc1≤_;omega,by show numF f1 (foldS S1 []);exact hf1,oF.weaken (by simp)⟩ fun x env wl ⟨hj,hMj,hNj,hcj,hfj,hol⟩=>?_
        obtain ⟨j,fj,cj⟩:=x
        simp only at hj hMj hcj hfj
        clear hs
        have hs:=St.nil wl
        repeat' (first|refine vs (k:=?_)|refine qRg ?_|refine Nx.h ?_|(refine xc_if rfl (fun hc=>?_) (fun hc=>?_))|fail)
        · have hjl:j < pl.length:=by omega
          obtain ⟨bb,off2,cs2,E2,fz2,hab,hb2,hcs2⟩:=hP13 (List.ne_nil_of_mem (List.getElem_mem hjl))
          have hpk2:=hcs2 j pl[j] (List.getElem?_eq_getElem hjl)
          have ej:=nx64 (m:=pl.length) hjl (by omega)
          have efj:=fold_next hjl S1
          obtain ⟨pid,pdn,ps0,pn0,ple,pL⟩:=parts_at hjl hPO
          have nbm:bb≠mb:=hM13.ne hb2
          generalize pl[j]=y at *
          generalize foldS S1 (pl.take j)=Sj at *
          rw [hab]
          refine ix (h0:=(by omega)) (h1:=(by omega)) (k:=?_)
          refine lhK (vs:=y.cells) (hol.block hb2 (by simpa using nbm)) hpk2 (k:=?_)
          refine al hs (k:=?_);clear hs;intro b13 w20 hz20 hs
          refine stA hs (k:=?_);clear hs;intro w21 hs
          have h13b:=hs.get (b:=b13) (by repeat (first | exact At.head | (with_reducible apply At.tail)))
          have o21:=hs.only0 rfl
          have hM21:=hMj.keep o21 (by simp)
          have hN21:=hNj.keep o21 (by simp)
          have nb13:b13≠mb:=hM21.ne h13b
          repeat' (first|refine vs (k:=?_)|refine qRg ?_|refine Nx.h ?_|fail)
          refine xs_look1 (hMj.keep (hs.only0 rfl) (by simp)) pid zero_u64 map_ty (k:=?_)
          rw [hfj]
          have ew:IntKind.u64.wrap (Sj y.id+y.ns)=Sj y.id+y.ns:=u64_id ⟨by omega,by omega⟩
          repeat' (first|refine vs (k:=?_)|fail)
          rw [ew]
          have oG:=hs.only0 rfl
          refine xs_mapPut (hMj.keep oG (by simp)) pid (by show cj < 9223372036854775807;omega) (e:=22) map_ty (k:=?_)
          intro w22 hM22 ho22
          have h22:=ho22.block (hs.get (b:=b13) (by repeat (first | exact At.head | (with_reducible apply At.tail)))) (by simpa using nb13)
          have hN22:=(hNj.keep oG (by simp)).keep ho22 (by simpa using hmn)
          have oH:Only [mb] w13 w22:=(hol.step oG (by simp)).step ho22 (fun k hk => .inl hk)
          have hM22:MapAt w22 mb (updF fj y.id (some (.int .u64 (Sj y.id+y.ns)))) (if (fj y.id).isSome then cj else cj+1):=hM22
          have hf22:numF (updF fj y.id (some (.int .u64 (Sj y.id+y.ns)))) (fun j=>if j=y.id then Sj y.id+y.ns else Sj j):=hfj.put fun _=>rfl
          generalize updF fj y.id (some (.int .u64 (Sj y.id+y.ns)))=fk at *
          have hck:(if (fj y.id).isSome then cj else cj+1)≤cj+1:=by split <;> omega
          generalize (if (fj y.id).isSome then cj else cj+1)=ck at *
          have v1:(fk y.id).getD (.int .u64 0) = .int .u64 (Sj y.id+y.ns):=by rw [hf22];simp
          have v2:(g1 y.id).getD (.int .u64 0) = .int .u64 (L1 y.id):=hg1 _
          clear hs
          have hs:=(St.nil w22).trackT h22
          repeat' (first|refine vs (k:=?_)|refine qRg ?_|refine Nx.h ?_|fail)
          refine xs_look1 (hM22.keep (hs.onlyF [] (by simp [h22]) (by simp [D0])) (by simp)) pid zero_u64 map_ty (k:=?_)
          rw [v1]
          repeat' (first|refine vs (k:=?_)|fail)
          refine xs_look1 (hN22.keep (hs.onlyF [] (by simp [h22]) (by simp [D0])) (by simp)) pid zero_u64 map_ty (k:=?_)
          rw [v2]
          refine vs (k:=?_)
          refine vs (k:=?_)
          rw [show (y.done != (Sj y.id+y.ns == L1 y.id))=false by rw [pdn];by_cases k:Sj y.id+y.ns=L1 y.id <;> simp [k]]
          repeat' (first|refine vs (k:=?_)|fail)
          refine xs_look1 (hM22.keep (hs.onlyF [] (by simp [h22]) (by simp [D0])) (by simp)) pid zero_u64 map_ty (k:=?_)
          rw [v1]
          repeat' (first|refine vs (k:=?_)|fail)
          refine xs_look1 (hN22.keep (hs.onlyF [] (by simp [h22]) (by simp [D0])) (by simp)) pid zero_u64 map_ty (k:=?_)
          rw [v2]
          refine vs (k:=?_)
          rw [show decide (L1 y.id < Sj y.id+y.ns)=false from decide_eq_false (by omega)]
          repeat' (first|refine vs (k:=?_)|refine qRg ?_|refine Nx.h ?_|refine qCf ?_|(refine xc_cond rfl (fun hc=>?_) (fun hc=>?_))|fail)
          · have hd:y.done=true:=by simpa using hc
            have oI:=hs.onlyF [] (by simp [h22]) (by simp [D0])
            refine xs_mapPut (hM22.keep oI (by simp)) pid (by show ck < 9223372036854775807;omega) (e:=22) map_ty (k:=?_)
            intro w23 hM23 ho23
            clear hs
            have hs:=St.nil w23
            repeat' (first|refine vs (k:=?_)|refine qRg ?_|refine Nx.h ?_|fail)
            have oJ:=hs.only0 rfl
            refine loopS_next (j+1,_,_) (by show pl.length - (j+1) < pl.length - j;omega) ?_ ⟨by show j+1≤_;omega,hM23.keep oJ (by simp),((hN22.keep oI (by simp)).keep ho23 (by simpa using hmn)).keep oJ (by simp),by show (if (fk y.id).isSome then ck else ck+1)≤i*3000000000000+1+2*(j+1);split <;> omega,?_,((oH.step oI (by simp)).step ho23 (fun k hk => .inl hk)).step oJ (by simp)⟩
            · (repeat (first | exact agree_nil | (apply agree_cons;first | exact rfl | exact congrArg (Value.int .i64) ej)))
            · show numF _ (foldS S1 (pl.take (j+1)))
              rw [efj]
              refine hf22.put fun k=>?_
              unfold stepS
              rw [hd]
              by_cases z:k=y.id
              · rw [if_pos z,if_pos z];rfl
              · rw [if_neg z,if_neg z,if_neg z]
          · have hd:y.done=false:=by simpa using hc
            have oI:=hs.onlyF [] (by simp [h22]) (by simp [D0])
            refine loopS_next (j+1,fk,ck) (by show pl.length - (j+1) < pl.length - j;omega) ?_ ⟨by show j+1≤_;omega,hM22.keep oI (by simp),hN22.keep oI (by simp),by show ck≤i*3000000000000+1+2*(j+1);omega,?_,oH.step oI (by simp)⟩
            · (repeat (first | exact agree_nil | (apply agree_cons;first | exact rfl | exact congrArg (Value.int .i64) ej)))
            · show numF fk (foldS S1 (pl.take (j+1)))
              rw [efj]
              intro k
              rw [hf22 k]
              show Value.int .u64 (if k=y.id then Sj y.id+y.ns else Sj k) = .int .u64 (if k=y.id then (bif y.done then 0 else Sj k+y.ns) else Sj k)
              rw [hd]
              by_cases z:k=y.id
              · rw [if_pos z,if_pos z,z];rfl
              · rw [if_neg z,if_neg z]
        · have ej:j=pl.length:=by omega
          have hfin:cj≤(i+1)*3000000000000:=fin_le hcj (by rw [ej];omega)
          rw [ej,List.take_length] at hfj
          exact cutB_exit (fj,cj) (by (repeat (first | exact agree_nil | (apply agree_cons;exact rfl)))) ⟨hMj,hNj,hfin,hfj,hol⟩
      rintro ⟨f2,fc2⟩ env w14 ⟨hM14,hN14,hcc2,hf2,ho14⟩
      simp only at hM14 hcc2 hf2
      have hC14:=hC13.keepD ho14 (fun k hk hm=>(hF' k hk).2.1 (List.mem_singleton.1 hm))
      have hoA14:Only [] w0 w14:=hoA13.step ho14 (fun k hk => .inr (by rw [List.mem_singleton.1 hk];exact hgm))
      obtain ⟨sb,qb,qmb,Fs,eF,c1o,s1o,hS1,hQ1,ms1⟩:=hC14.opn
      have hA32:c2.A.l.length≤32:=by obtain ⟨s,h⟩:=hS1.rep;exact h.le
      have hrl:∀ a∈c2.A.l,1≤a.1.left∧a.1.left≤1099511627776:=fun a ha=>by
        obtain ⟨s,h⟩:=hS1.rep
        have:=right_left (h.r a ha)
        omega
      clear hs
      have hs:=((St.nil w14).trackT c1o).trackT s1o
      repeat' (first|refine vs (k:=?_)|refine qRg ?_|refine Nx.h ?_|fail)
      have hoa:=hs.onlyF [] (by simp [c1o,s1o]) (by simp [D0])
      (with_reducible apply xs_call);exact rfl;exact rfl;exact areqs_ret sb c2.A Fs _ (hS1.only hoa)
      rintro v w15 ⟨⟨Gc,hGc,_⟩,ho15⟩
      have hoE:=hoa.trans ho15
      obtain ⟨ad1,cp1,rfl,hD1⟩:=ls_rq hGc
      have hM15:=hM14.keep hoE (by simp)
      have hN15:=hN14.keep hoE (by simp)
      have hC15:=hC14.only hoE
      clear hs
      have hs:=St.nil w15
      repeat' (first|refine vs (k:=?_)|refine Nx.h ?_|fail)
      refine xc_cutB (fun (_:Unit)=>[(5,.pointer (some ⟨cb,0,none⟩)),(6,.map (some mb)),(7,.map (some nb)),(25,.slice (some ⟨b0,off,none⟩) xs.length cap),(26,.int .i64 (xs.length:Nat)),(27,.int .i64 (i:Nat))]) (fun _ w'=>Only [] w15 w') ?_ ?_
      · refine xc_loopS (fun (j:Nat)=>[(5,.pointer (some ⟨cb,0,none⟩)),(6,.map (some mb)),(7,.map (some nb)),(25,.slice (some ⟨b0,off,none⟩) xs.length cap),(26,.int .i64 (xs.length:Nat)),(27,.int .i64 (i:Nat)),(104,.slice ad1 c2.A.l.length cp1),(105,.int .i64 (c2.A.l.length:Nat)),(106,.int .i64 (j:Nat))])
          (fun j w'=>j≤c2.A.l.length∧Only [] w15 w') (fun j=>c2.A.l.length - j) 0 (by (repeat (first | exact agree_nil | (apply agree_cons;exact rfl)))) ⟨Nat.zero_le _,hs.only0 rfl⟩ fun j env wl ⟨hj,hol⟩=>?_
        clear hs
        have hs:=St.nil wl
        repeat' (first|refine vs (k:=?_)|refine qRg ?_|refine Nx.h ?_|(refine xc_if rfl (fun hc=>?_) (fun hc=>?_))|fail)
        · have hjl:j < c2.A.l.length:=by omega
          obtain ⟨bb,off2,cs2,E2,fz2,hab,hb2,hcs2⟩:=hD1 (List.ne_nil_of_mem (List.getElem_mem hjl))
          have hpk2:=hcs2 j c2.A.l[j] (List.getElem?_eq_getElem hjl)
          obtain ⟨hr1,hr2⟩:=hRq2 _ (List.getElem_mem hjl)
          have hr3:=hrl _ (List.getElem_mem hjl)
          have ej:=nx64 (m:=c2.A.l.length) hjl (by omega)
          generalize c2.A.l[j]=y at *
          have v1:(f2 y.1.i.id).getD (.int .u64 0) = .int .u64 (foldS S1 pl (idR y)):=hf2 _
          have v2:(g1 y.1.i.id).getD (.int .u64 0) = .int .u64 (L1 (idR y)):=hg1 _
          have hid:In64 y.1.i.id:=y.2.1.2.1
          have ew:IntKind.u64.wrap (L1 (idR y) - foldS S1 pl (idR y))=y.1.left:=by rw [← hr2];exact u64_id ⟨by omega,by omega⟩
          rw [hab]
          refine ix (h0:=(by omega)) (h1:=(by omega)) (k:=?_)
          refine lhK (vs:=y.1.cells) (hol.block hb2 (by simp)) hpk2 (k:=?_)
          refine al hs (k:=?_);clear hs;intro b15 w20 hz20 hs
          refine stA hs (k:=?_);clear hs;intro w21 hs
          repeat' (first|refine vs (k:=?_)|refine qRg ?_|refine Nx.h ?_|fail)
          refine xs_look1 ((hN15.keep hol (by simp)).keep (hs.only0 rfl) (by simp)) hid zero_u64 map_ty (k:=?_)
          rw [v2]
          repeat' (first|refine vs (k:=?_)|fail)
          refine xs_look1 ((hM15.keep hol (by simp)).keep (hs.only0 rfl) (by simp)) hid zero_u64 map_ty (k:=?_)
          rw [v1]
          refine vs (k:=?_)
          rw [ew]
          refine vs (k:=?_)
          rw [show (y.1.left != y.1.left)=false by simp]
          repeat' (first|refine vs (k:=?_)|fail)
          refine xs_look1 ((hN15.keep hol (by simp)).keep (hs.only0 rfl) (by simp)) hid zero_u64 map_ty (k:=?_)
          rw [v2,← hr1]
          refine vs (k:=?_)
          rw [show (y.1.slice != y.1.slice)=false by simp]
          repeat' (first|refine vs (k:=?_)|refine qRg ?_|refine Nx.h ?_|refine qCf ?_|fail)
          exact loopS_next (j+1) (by show c2.A.l.length - (j+1) < c2.A.l.length - j;omega) (by (repeat (first | exact agree_nil | (apply agree_cons;first | exact rfl | exact congrArg (Value.int .i64) ej)))) ⟨by show j+1≤_;omega,hol.trans (hs.only0 rfl)⟩
        · exact cutB_exit () (by (repeat (first | exact agree_nil | (apply agree_cons;exact rfl)))) hol
      · rintro _ env w16 ho16
        clear hs
        have hs:=St.nil w16
        repeat' (first|refine vs (k:=?_)|refine qRg ?_|refine Nx.h ?_|fail)
        have hoz:=ho16.trans (hs.only0 rfl)
        refine loopS_next (i+1,F',c2,f2,fc2,g1,gc1,foldS S1 pl,L1) (by show xs.length - (i+1) < xs.length - i;omega) (by (repeat (first | exact agree_nil | (apply agree_cons;first | exact rfl | exact congrArg (Value.int .i64) ei)))) ⟨by show i+1≤_;omega,hC15.only hoz,hF',(hoA14.trans hoE).trans hoz,hI2,⟨hM15.keep hoz (by simp),hN15.keep hoz (by simp)⟩,⟨hcc2,hcc1.2⟩,⟨hf2,hg1⟩,hSS2,hRq2⟩
    · exact cutB_exit () (by (repeat (first | exact agree_nil | (apply agree_cons;exact rfl)))) hoL
  · rintro _ env w ho
    clear hs
    have hs:=St.nil w
    repeat' (first|refine vs (k:=?_)|refine qRg ?_|refine Nx.h ?_|fail)
    first | refine rt (hq:=?_) | refine rt' (hq:=?_)
    exact ⟨rfl,ho.trans (hs.only0 rfl)⟩
end Go.Proofs.YtkbcfknnieggbaaGreatDoorX

namespace Go.Proofs.YtkbcfknnieggbaaGreatDoorX
open Go Go.RowKit Go.ChangeShapes Go.WideShapes Go.ChangeAt
set_option maxRecDepth 100000 in
theorem coreRequests_lifted (os:Os) (started:os.Started) (H:Type) (enc:TypeId × Value→H) :
    ReturnsInHanded {} Tryz.checked os 4 .any (fun w args => (YtkbcfknnieggbaaGreatDoor.Rows.coreRequestsSpec.pre enc Tryz.prog Tryz.f4 [] false w args ∧ laidMetH Tryz.prog [("math/bits.deBruijn32tab", YtkbcfknnieggbaaGreatDoor.Rows.laid_math_bits_deBruijn32tab), ("math/bits.deBruijn64tab", YtkbcfknnieggbaaGreatDoor.Rows.laid_math_bits_deBruijn64tab), ("internal/strconv.uint64pow10", YtkbcfknnieggbaaGreatDoor.Rows.laid_internal_strconv_uint64pow10)] w) ∧ sizedMet enc Tryz.prog Tryz.f4 (OpenSpec.ofChange YtkbcfknnieggbaaGreatDoor.Rows.coreRequestsSpec) false w args) (YtkbcfknnieggbaaGreatDoor.Rows.coreRequestsSpec.post enc Tryz.prog Tryz.f4 false true false false) := by
  refine returnsInHanded_of_change_and (C := Tryz.checked) (X := fun w _ => laidMetH Tryz.prog [("math/bits.deBruijn32tab", YtkbcfknnieggbaaGreatDoor.Rows.laid_math_bits_deBruijn32tab), ("math/bits.deBruijn64tab", YtkbcfknnieggbaaGreatDoor.Rows.laid_math_bits_deBruijn64tab), ("internal/strconv.uint64pow10", YtkbcfknnieggbaaGreatDoor.Rows.laid_internal_strconv_uint64pow10)] w) (fun _ _ _ hh h => h.of_heap hh) own started (by kernel_rfl) Tryz.func4
    (ChangeSpec.witness_shaped (enc := enc) (C := Tryz.checked) (os := os) (X := fun w _ => laidMetH Tryz.prog [("math/bits.deBruijn32tab", YtkbcfknnieggbaaGreatDoor.Rows.laid_math_bits_deBruijn32tab), ("math/bits.deBruijn64tab", YtkbcfknnieggbaaGreatDoor.Rows.laid_math_bits_deBruijn64tab), ("internal/strconv.uint64pow10", YtkbcfknnieggbaaGreatDoor.Rows.laid_internal_strconv_uint64pow10)] w) false (World.doorLaid Tryz.prog 24 os) #[.int .u64 0, .slice none 0 0] 8 rfl (World.shaped_of_RefB (by kernel_rfl) (by kernel_rfl)) (by kernel_rfl) (by kernel_rfl) (by kernel_rfl) (door_met os _)) ?_
  intro W base args ds gs before hval0 hW hcnd hsz0 hL _
  have hP:=pows_of hL
  have hval:∀ (j:Nat) t v,Tryz.f4.params[j]?=some t→args[j]?=some v→Value.okWide Tryz.prog W .any base t v:=hval0
  have hW':=hW
  obtain ⟨p,q,hA0,hV,rfl,hfz,hnd⟩:=hW
  have hA:DataW.TrodAll enc Tryz.prog W 0 (fun _=>true) true Tryz.f4.params.toList args.toList ds p:=hA0
  rw [Tryz.params4] at hA hval
  obtain ⟨v0,vs0,d0,ds0,p0,q0,hargs,rfl,rfl,h0,r0⟩:=trodAll_cons hA
  obtain ⟨v1,vs1,d1,ds1,p1,q1,rfl,rfl,rfl,h1,r1⟩:=trodAll_cons r0
  obtain ⟨rfl,rfl,rfl⟩:=trodAll_nil r1
  obtain rfl:args=#[v0,v1]:=by cases args;simp_all
  obtain ⟨rfl,rfl⟩:=trodVars_none hV
  have lt0:∀ x∈p0,x.block < W.heap.size:=by obtain ⟨m,hm⟩:=h0;exact DataW.trod_lt m _ _ _ hm
  have k0:=h0
  obtain ⟨x0,rfl,_,_,w0⟩:=open_int (t:=22) (k := .u64) (by kernel_rfl) (hval 0 _ v0 rfl rfl) k0
  have b0:(0:Int)≤x0∧x0 < 18446744073709551616:=by
    have h:=int_of w0
    have e1:IntKind.u64.min=0:=rfl
    have e2:IntKind.u64.max=18446744073709551615:=rfl
    omega
  have lt1:∀ x∈p1,x.block < W.heap.size:=by obtain ⟨m,hm⟩:=h1;exact DataW.trod_lt m _ _ _ hm
  have k1:=h1
  obtain ⟨x1,hw1,hx1⟩:=open_acts18 (hval 1 _ v1 rfl rfl) k1
  clear hA0 hval0 hsz0
  refine (ret_calls (by kernel_rfl) (coreRequests_ret x0 x1 v1 b0 hx1 W hw1 hP)).mono fun e W' ⟨v,he,hv,ho⟩=>?_
  subst he hv
  have bel:=ho.below
  exact ⟨_,rfl,_,_,_,[],_,[],hW',trodAll_mk1 (shut_bool (by kernel_rfl) _),(trodAll_cons_mk (Below.trod laidOut (by kernel_rfl) (of_decide_eq_true (by kernel_rfl)) h0 bel lt0) (trodAll_cons_mk (Below.trod laidOut (by kernel_rfl) (of_decide_eq_true (by kernel_rfl)) h1 bel lt1) trodAll_mk0)),rfl,bel.frame _,fun h=>by cases h⟩
end Go.Proofs.YtkbcfknnieggbaaGreatDoorX
namespace Go.Proofs.YtkbcfknnieggbaaGreatDoor
open Go Go.RowKit Go.ChangeShapes Go.WideShapes Go.ChangeAt
theorem coreRequests_nm : Tryz.prog.funcNamed "turnstone/turnstonelaw18.CoreRequests" = some 4 := by kernel_rfl
theorem coreRequests_ip:(Rows.coreRequestsRow.inPlace == Tryz.prog.inPlace 4)=true:=by kernel_rfl
theorem coreRequests_un:(Rows.coreRequestsRow.unfollowed == Tryz.prog.unfollowed 4)=true:=by kernel_rfl
theorem coreRequests_rc:(Rows.coreRequestsRow.recurses == Tryz.prog.recurses 4)=true:=by kernel_rfl
theorem coreRequests_nd:(Rows.coreRequestsRow.named == Tryz.prog.varsNamed 4)=true:=by kernel_rfl
theorem coreRequests_holds:Rows.CoreRequestsSaid :=
  OpenClaim.holds_of_wide 4 Tryz.f4 rfl rfl rfl rfl rfl rfl rfl ⟨rfl,rfl,rfl,rfl,rfl⟩ rfl rfl rfl rfl rfl coreRequests_nm Tryz.func4
    (by unfold joinedFacts;exact (and_mk (and_mk (and_mk (and_mk (and_mk (and_mk (and_mk (and_mk (and_mk (and_mk (and_mk (and_mk (and_mk (and_mk (and_mk (and_mk (and_mk (and_mk (and_mk (and_mk (and_mk (and_mk (and_mk (and_mk (and_mk (and_mk (and_mk (and_mk (and_mk (and_mk (and_mk (by kernel_rfl) pf_laid) pf_maps) (by kernel_rfl)) (by kernel_rfl)) (by kernel_rfl)) (by kernel_rfl)) (by kernel_rfl)) (by kernel_rfl)) coreRequests_ip) coreRequests_un) coreRequests_rc) coreRequests_nd) (by kernel_rfl)) (by kernel_rfl)) (by kernel_rfl)) (by kernel_rfl)) (by kernel_rfl)) (by kernel_rfl)) (by kernel_rfl)) (by kernel_rfl)) (by kernel_rfl)) pf_keys) (by kernel_rfl)) pf_heard) pf_enter) pf_lift) pf_make) (by kernel_rfl)) (by kernel_rfl)) (by kernel_rfl)) (by kernel_rfl)))
    (of_decide_eq_true (by kernel_rfl)) (by unfold Func.isWrapper;first | (rw [if_pos (by decide +kernel)];kernel_rfl) | (rw [if_neg (by decide +kernel)];exact ⟨rfl,rfl⟩))
    (fun os started H enc _=>YtkbcfknnieggbaaGreatDoorX.coreRequests_lifted os started H enc)
theorem coreRequests_w:Rows.coreRequestsRow.wfByText (OpenSpec.ofChange Rows.coreRequestsSpec)=true:=by kernel_rfl
theorem coreRequests_mn:Tryz.prog.mainIs=some (Rows.coreRequestsCard.stood.harness.1,Rows.coreRequestsCard.stood.harness.2.toList):=by kernel_rfl
theorem coreRequests_lk:Rows.coreRequestsCard.stood.looks=Tryz.prog.looks []:=by kernel_rfl
theorem coreRequests_gs:false=Rows.coreRequestsRow.goesBy Tryz.prog:=by kernel_rfl
theorem coreRequests_card:Rows.CoreRequestsCardSaid :=
  Claim7.holds_tied_plain_at .later [] [.data,.data,.data] true Rows.coreRequestsCard.stood.harness Rows.coreRequestsCard.stood.looks
    coreRequests_holds (fun _ h=>by cases h) coreRequests_w (fun _ h=>by cases h) coreRequests_row_tie rfl ⟨rfl,rfl⟩ coreRequests_mn rfl
    (fun f fn hf hfn=>by
      obtain rfl:f=4:=Option.some.inj (coreRequests_nm.symm.trans hf) |>.symm
      obtain rfl:fn=Tryz.f4:=(Option.some.inj (Tryz.func4.symm.trans hfn)).symm
      exact ⟨coreRequests_lk,fun j t ht=>by
        rw [Tryz.params4] at ht
        have hm:t∈[22,62]:=by simpa using Array.mem_of_getElem? ht
        have hall:([22,62].all fun u=>!Tryz.prog.wantsStandIn u)=true:=by kernel_rfl
        exact (show Tryz.prog.wantsStandIn t=false by simpa using List.all_eq_true.1 hall t hm)⟩)
    coreRequests_gs
end Go.Proofs.YtkbcfknnieggbaaGreatDoor
