/- A part of the proof: what its functions compute. -/
import Derived.Test.YtkbcfknnieggbaaGreatDoorBaseV7
import Derived.Shelf.SlMaps.Clone
import Derived.Ground.SlmcProg
import Derived.Laws.OwnMore
set_option linter.unusedVariables false
set_option linter.unusedSimpArgs false
set_option maxRecDepth 100000
namespace Go.Proofs.YtkbcfknnieggbaaGreatDoorX
open IB (IT)
theorem minL_spec:∀ {l:List Int},l≠[]→minL l∈l∧∀ x∈l,minL l≤x
  | [],h=>absurd rfl h
  | d :: l,_=>by
    suffices H:∀ (l:List Int) (d:Int),(l.foldl (fun a b=>if b < a then b else a) d=d∨l.foldl (fun a b=>if b < a then b else a) d∈l)∧l.foldl (fun a b=>if b < a then b else a) d≤d∧∀ x∈l,l.foldl (fun a b=>if b < a then b else a) d≤x by
      obtain ⟨h1,h2,h3⟩:=H l d
      refine ⟨List.mem_cons.2 h1,fun x hx=>?_⟩
      rcases List.mem_cons.1 hx with rfl | hx
      · exact h2
      · exact h3 x hx
    intro l
    induction l with
    | nil=>intro d;exact ⟨.inl rfl,Int.le_refl _,by simp⟩
    | cons e l ih =>
      intro d
      rw [List.foldl_cons]
      obtain ⟨m,hm,k1,k2,k3⟩:∃ m,m=(if e < d then e else d)∧m≤d∧m≤e∧(m=d∨m=e):=⟨_,rfl,by split <;> omega,by split <;> omega,by split <;> simp⟩
      rw [← hm]
      obtain ⟨h1,h2,h3⟩:=ih m
      refine ⟨?_,by omega,fun x hx=>?_⟩
      · rcases h1 with h1 | h1
        · rcases k3 with k3 | k3
          · exact .inl (h1.trans k3)
          · exact .inr (by rw [h1,k3];exact List.mem_cons_self)
        · exact .inr (List.mem_cons_of_mem _ h1)
      · rcases List.mem_cons.1 hx with rfl | hx
        · omega
        · exact h3 x hx
theorem maxL_spec:∀ {l:List Int},l≠[]→maxL l∈l∧∀ x∈l,x≤maxL l
  | [],h=>absurd rfl h
  | d :: l,_=>by
    suffices H:∀ (l:List Int) (d:Int),(l.foldl (fun a b=>if b > a then b else a) d=d∨l.foldl (fun a b=>if b > a then b else a) d∈l)∧d≤l.foldl (fun a b=>if b > a then b else a) d∧∀ x∈l,x≤l.foldl (fun a b=>if b > a then b else a) d by
      obtain ⟨h1,h2,h3⟩:=H l d
      refine ⟨List.mem_cons.2 h1,fun x hx=>?_⟩
      rcases List.mem_cons.1 hx with rfl | hx
      · exact h2
      · exact h3 x hx
    intro l
    induction l with
    | nil=>intro d;exact ⟨.inl rfl,Int.le_refl _,by simp⟩
    | cons e l ih =>
      intro d
      rw [List.foldl_cons]
      obtain ⟨m,hm,k1,k2,k3⟩:∃ m,m=(if e > d then e else d)∧m≥d∧m≥e∧(m=d∨m=e):=⟨_,rfl,by split <;> omega,by split <;> omega,by split <;> simp⟩
      rw [← hm]
      obtain ⟨h1,h2,h3⟩:=ih m
      refine ⟨?_,by omega,fun x hx=>?_⟩
      · rcases h1 with h1 | h1
        · rcases k3 with k3 | k3
          · exact .inl (h1.trans k3)
          · exact .inr (by rw [h1,k3];exact List.mem_cons_self)
        · exact .inr (List.mem_cons_of_mem _ h1)
      · rcases List.mem_cons.1 hx with rfl | hx
        · omega
        · exact h3 x hx
theorem minL_mem_eq {l l':List Int} (h:∀ x,x∈l↔x∈l'):minL l=minL l':=by
  by_cases e:l=[]
  · subst e
    have:l'=[]:=List.eq_nil_iff_forall_not_mem.2 fun x hx=>by have:=(h x).2 hx;cases this
    rw [this]
  · have e':l'≠[]:=fun k=>e (List.eq_nil_iff_forall_not_mem.2 fun x hx=>by have:=(h x).1 hx;rw [k] at this;cases this)
    obtain ⟨h1,h2⟩:=minL_spec e
    obtain ⟨k1,k2⟩:=minL_spec e'
    have:=h2 _ ((h _).2 k1)
    have:=k2 _ ((h _).1 h1)
    omega
theorem maxL_mem_eq {l l':List Int} (h:∀ x,x∈l↔x∈l'):maxL l=maxL l':=by
  by_cases e:l=[]
  · subst e
    have:l'=[]:=List.eq_nil_iff_forall_not_mem.2 fun x hx=>by have:=(h x).2 hx;cases this
    rw [this]
  · have e':l'≠[]:=fun k=>e (List.eq_nil_iff_forall_not_mem.2 fun x hx=>by have:=(h x).1 hx;rw [k] at this;cases this)
    obtain ⟨h1,h2⟩:=maxL_spec e
    obtain ⟨k1,k2⟩:=maxL_spec e'
    have:=h2 _ ((h _).2 k1)
    have:=k2 _ ((h _).1 h1)
    omega
theorem mem_places {b d:Int} {l:List It}:d∈sinces b (places l)↔∃ x∈l,d=sn x.p.t b:=by
  unfold sinces places
  simp only [List.map_map,List.mem_map,Function.comp]
  exact ⟨fun ⟨x,h,e⟩=>⟨x,h,e.symm⟩,fun ⟨x,h,e⟩=>⟨x,h,e.symm⟩⟩
theorem mem_boths {b d:Int} {l:List It}:d∈sinces b (bothPs l)↔∃ x∈l,d=sn x.p.t b∨d=sn x.d.t b:=by
  unfold sinces bothPs
  simp only [List.mem_map,List.mem_flatMap,List.mem_cons,List.not_mem_nil,or_false]
  constructor
  · rintro ⟨p,⟨x,h,rfl | rfl⟩,rfl⟩
    · exact ⟨x,h,.inl rfl⟩
    · exact ⟨x,h,.inr rfl⟩
  · rintro ⟨x,h,rfl | rfl⟩
    · exact ⟨_,⟨x,h,.inl rfl⟩,rfl⟩
    · exact ⟨_,⟨x,h,.inr rfl⟩,rfl⟩
theorem spr_mem {b:Int} {l l':List It} (h:∀ x,x∈l↔x∈l'):spr b l=spr b l':=by
  unfold spr
  rw [maxL_mem_eq (l:=sinces b (bothPs l)) (l':=sinces b (bothPs l')) (fun x=>by rw [mem_boths,mem_boths];simp only [h]),minL_mem_eq (l:=sinces b (places l)) (l':=sinces b (places l')) (fun x=>by rw [mem_places,mem_places];simp only [h])]
theorem within_mem {b:Int} {l l':List It} (h:∀ x,x∈l↔x∈l'):within b l=within b l':=by unfold within;rw [spr_mem h]
theorem win_of {b:Int} {l:List It} (h1:∀ x∈l,x.In∧x.right=true) (h2:within b l=true) (h3:∃ x∈l,sn x.p.t b≤0) (h4:∃ x∈l,0≤sn x.p.t b) (hl:l.length≤32):∃ lo,AllW b lo l:=by
  unfold within at h2
  rw [decide_eq_true_eq] at h2
  obtain ⟨x0,hx0,k0⟩:=h3
  obtain ⟨x1,hx1,k1⟩:=h4
  have e1:sinces b (places l)≠[]:=fun e=>by have:=(mem_places (b:=b)).2 ⟨x0,hx0,rfl⟩;rw [e] at this;cases this
  have e2:sinces b (bothPs l)≠[]:=fun e=>by have:=(mem_boths (b:=b)).2 ⟨x0,hx0,.inl rfl⟩;rw [e] at this;cases this
  obtain ⟨m1,m2⟩:=minL_spec e1
  obtain ⟨n1,n2⟩:=maxL_spec e2
  have a0:=m2 _ (mem_places.2 ⟨x0,hx0,rfl⟩)
  have a1:=n2 _ (mem_boths.2 ⟨x1,hx1,.inl rfl⟩)
  unfold spr at h2
  have r1:minL (sinces b (places l))≥-9223372036854775808:=by obtain ⟨x,_,e⟩:=mem_places.1 m1;rw [e];exact (sn_rng _ _).1
  have r2:maxL (sinces b (bothPs l)) < 9223372036854775808:=by
    obtain ⟨x,_,e | e⟩:=mem_boths.1 n1
    · rw [e];exact (sn_rng _ _).2
    · rw [e];exact (sn_rng _ _).2
  generalize minL (sinces b (places l))=lo at *
  generalize maxL (sinces b (bothPs l))=hi at *
  refine ⟨lo,by unfold Mid;omega,hl,fun x hx=>?_⟩
  obtain ⟨i1,i2⟩:=h1 x hx
  have b1:=m2 _ (mem_places.2 ⟨x,hx,rfl⟩)
  have b2:=n2 _ (mem_boths.2 ⟨x,hx,.inl rfl⟩)
  have b3:=n2 _ (mem_boths.2 ⟨x,hx,.inr rfl⟩)
  obtain ⟨_,_,_,_,d1,d2,_⟩:=iright_all i1 i2
  have ed:sn x.d.t b=sn x.p.t b+sn x.d.t x.p.t:=by unfold sn at *;omega
  exact ⟨i1,i2,b1,by omega⟩
structure As where
  l:List RT
  c:Int
def its (l:List RT):List It:=l.map fun r=>r.1.i
def nowA (A:As):Int:=if A.l=[] then A.c else (meanL (its A.l)).b
def baseA (A:As) (a:It):Int:=if A.l=[] then a.p.t else nowA A
def joinA (A:As) (a:It):Int :=
  bif !a.right then 2 else bif (findR A.l a.id).isSome then 13 else bif decide (A.l.length=32) then 7 else bif !within (baseA A a) (its A.l ++ [a]) then 8 else 0
def entE (A:As) (r:RT):Int:=layE r.1 (joinA A r.1.i)
def entA (A:As) (r:RT):As:=if entE A r=0 then ⟨putR r A.l,A.c⟩ else A
def extA (A:As) (id:Int):As:=if (findR A.l id).isSome then ⟨delR id A.l,nowA A⟩ else A
structure Rep (s:Ss) (A:As):Prop where
  q:QI s.q
  l:s.l=A.l
  p:s.q.t.list.Perm (A.l.map itR)
  c:s.q.c=A.c
  r:∀ r∈A.l,r.1.right=true
  o:OrdR A.l
theorem its_itR (l:List RT):plain (l.map itR)=its l:=by unfold plain its;rw [List.map_map];rfl
theorem Rep.len {s:Ss} {A:As} (h:Rep s A):s.q.t.list.length=A.l.length:=by rw [h.p.length_eq,List.length_map]
theorem Rep.le {s:Ss} {A:As} (h:Rep s A):A.l.length≤32:=by rw [← h.len];exact h.q.len
theorem Rep.nil {s:Ss} {A:As} (h:Rep s A):s.q.t.list=[]↔A.l=[]:=by
  rw [← List.length_eq_zero_iff,h.len,List.length_eq_zero_iff]
theorem Rep.pits {s:Ss} {A:As} (h:Rep s A):(plain s.q.t.list).Perm (its A.l):=by rw [← its_itR];exact plain_perm h.p
theorem its_ne {l:List RT} (h:l≠[]):its l≠[]:=fun e=>h (List.map_eq_nil_iff.1 e)
theorem Rep.cen {s:Ss} {A:As} (h:Rep s A) (e:A.l≠[]):Cen s.q.m (its A.l):=(h.q.cen (fun k=>e (h.nil.1 k))).perm h.pits
theorem Rep.mean {s:Ss} {A:As} (h:Rep s A) (e:A.l≠[]):s.q.m=meanL (its A.l):=(h.cen e).eq (its_ne e)
theorem Rep.now {s:Ss} {A:As} (h:Rep s A):nowQ s.q=nowA A:=by
  unfold nowA
  by_cases e:A.l=[]
  · rw [nowQ_nil (h.nil.2 e),h.c,if_pos e]
  · rw [h.q.now (fun k=>e (h.nil.1 k)),h.mean e,if_neg e]
theorem Rep.f {s:Ss} {A:As} (h:Rep s A) (i:Int):s.q.f i=(findR A.l i).map itR:=by
  cases e:findR A.l i with
  | some a =>
    obtain ⟨h1,h2⟩:=findR_some e
    exact (h.q.f i (itR a)).2 ⟨h.p.mem_iff.2 (List.mem_map_of_mem h1),h2⟩
  | none =>
    cases e':s.q.f i with
    | none=>rfl
    | some b =>
      obtain ⟨h1,h2⟩:=(h.q.f i b).1 e'
      obtain ⟨r,h3,rfl⟩:=List.mem_map.1 (h.p.mem_iff.1 h1)
      have:=findR_mem h3
      rw [show idR r=i from h2,e] at this;cases this
theorem Rep.fs {s:Ss} {A:As} (h:Rep s A) (i:Int):(s.q.f i).isSome=(findR A.l i).isSome:=by rw [h.f];cases findR A.l i <;> rfl
theorem Rep.join {s:Ss} {A:As} (h:Rep s A) (a:IT):joinE s.q a=joinA A a.1:=by
  unfold joinE joinA
  rw [h.fs,h.len]
  have e1:baseQ s.q a=baseA A a.1:=by
    unfold baseQ baseA
    rw [h.len,h.now]
    by_cases e:A.l=[]
    · rw [if_pos e,e];rfl
    · rw [if_neg e,decide_eq_false (fun k=>e (List.eq_nil_of_length_eq_zero k)),cond_false]
  rw [e1,within_mem (l:=plain (s.q.t.list ++ [a])) (l':=its A.l ++ [a.1]) (fun x=>by rw [show plain (s.q.t.list ++ [a])=plain s.q.t.list ++ [a.1] from List.map_append ..,List.mem_append,List.mem_append,h.pits.mem_iff])]
theorem Rep.base {s:Ss} {A:As} (h:Rep s A) (a:IT):(preM s.q a).b=baseA A a.1:=by
  unfold baseA
  by_cases e:A.l=[]
  · rw [if_pos e,preM_nil (h.nil.2 e)]
  · rw [if_neg e,preM_ne (fun k=>e (h.nil.1 k)),← h.now,h.q.now (fun k=>e (h.nil.1 k))]
theorem rright_i {r:Rq} (h:r.right=true):r.i.right=true:=by
  unfold Rq.right at h
  simp only [Bool.and_eq_true] at h
  exact h.1.1.1
theorem low_mid {m:Mn} {l:List It} (h:Cen m l) (hl:l≠[]):(∃ x∈l,sn x.p.t m.b≤0)∧∃ x∈l,0≤sn x.p.t m.b:=by
  obtain ⟨lo,k⟩:=h.all
  have hw:=(k.mid hl).1
  have a0:=h.a0
  have a1:=h.a1
  rw [h.is.a] at a0 a1
  rw [h.is.w] at a1
  constructor
  · refine Classical.byContradiction fun hn=>?_
    have:=(sum_rng (b:=m.b) (lo:=1) (hi:=lo+4611686018427387904) (l:=l) fun x hx=>by
      obtain ⟨r1,r2,r3,r4⟩:=(k.2.2 x hx).rng k.1
      exact ⟨r1,r2,by have:=Int.not_le.1 (fun e=>hn ⟨x,hx,e⟩);omega,r4⟩).1
    omega
  · refine Classical.byContradiction fun hn=>?_
    have:=(sum_rng (b:=m.b) (lo:=lo) (hi:=-1) (l:=l) fun x hx=>by
      obtain ⟨r1,r2,r3,r4⟩:=(k.2.2 x hx).rng k.1
      exact ⟨r1,r2,r3,by have:=Int.not_le.1 (fun e=>hn ⟨x,hx,e⟩);omega⟩).2.1
    have:=List.length_pos_iff.2 hl
    omega
theorem Rep.win {s:Ss} {A:As} (h:Rep s A) {a:IT} (hr:a.1.right=true) (hn:A.l.length≠32) (hw:within (baseA A a.1) (its A.l ++ [a.1])=true):∃ lo,AllW (preM s.q a).b lo (a.1 :: plain s.q.t.list):=by
  have hle:=h.le
  rw [h.base]
  have hall:∀ x∈its A.l ++ [a.1],x.In∧x.right=true:=fun x hx=>by
    rcases List.mem_append.1 hx with hx | hx
    · obtain ⟨r,hr',rfl⟩:=List.mem_map.1 hx
      exact ⟨r.2.1,rright_i (h.r r hr')⟩
    · obtain rfl:=List.mem_singleton.1 hx;exact ⟨a.2,hr⟩
  have hlen:(its A.l ++ [a.1]).length≤32:=by simp [its];omega
  have hx:(∃ x∈its A.l ++ [a.1],sn x.p.t (baseA A a.1)≤0)∧∃ x∈its A.l ++ [a.1],0≤sn x.p.t (baseA A a.1):=by
    by_cases e:A.l=[]
    · have:baseA A a.1=a.1.p.t:=if_pos e
      rw [this]
      exact ⟨⟨a.1,by simp,by rw [sn_self];omega⟩,⟨a.1,by simp,by rw [sn_self];omega⟩⟩
    · obtain ⟨⟨x,k1,k2⟩,⟨y,k3,k4⟩⟩:=low_mid (h.cen e) (its_ne e)
      have:s.q.m.b=baseA A a.1:=by rw [← h.base a,preM_ne (fun k=>e (h.nil.1 k))]
      rw [this] at k2 k4
      exact ⟨⟨x,by simp [k1],k2⟩,⟨y,by simp [k3],k4⟩⟩
  obtain ⟨lo,k⟩:=win_of hall hw hx.1 hx.2 hlen
  exact ⟨lo,k.perm (List.perm_append_comm.trans (h.pits.symm.cons _))⟩
theorem put_perm {r:RT}:∀ {l:List RT},findR l (idR r)=none→(putR r l).Perm (r :: l)
  | [],_ => .refl _
  | a :: l,h=>by
    rw [findR_cons] at h
    unfold putR
    split
    · exact .refl _
    · split at h
      · cases h
      · split
        · rename_i k1 k2 k3;exact absurd k3.symm k2
        · exact ((put_perm h).cons a).trans (.swap _ _ _)
theorem Rep.enter {s:Ss} {A:As} (h:Rep s A) (r:RT):enterE s r=entE A r∧Rep (enterS s r) (entA A r):=by
  have he:enterE s r=entE A r:=by unfold enterE entE;rw [h.join];rfl
  refine ⟨he,?_⟩
  unfold entA
  by_cases e0:entE A r=0
  · rw [if_pos e0]
    have hr:r.1.right=true:=by
      unfold entE layE at e0
      cases k:r.1.right
      · rw [k] at e0;cases e0
      · rfl
    have hj:joinA A r.1.i=0:=by unfold entE layE at e0;rw [hr] at e0;exact e0
    have hjq:joinE s.q (itR r)=0:=by rw [h.join];exact hj
    unfold joinA at hj
    cases k1:r.1.i.right with
    | false=>rw [k1] at hj;cases hj
    | true =>
    cases k2:(findR A.l r.1.i.id) with
    | some x=>rw [k1,k2] at hj;cases hj
    | none =>
    by_cases k3:A.l.length=32
    · rw [k1,k2,decide_eq_true k3] at hj;cases hj
    · cases k4:within (baseA A r.1.i) (its A.l ++ [r.1.i]) with
      | false=>rw [k1,k2,decide_eq_false k3,k4] at hj;cases hj
      | true =>
        obtain ⟨lo,hw⟩:=h.win (a:=itR r) k1 k3 k4
        obtain ⟨p1,p2,p3⟩:=h.q.put (a:=itR r) (by rw [h.f];show Option.map itR (findR A.l r.1.i.id)=none;rw [k2];rfl) hw
        have hE:enterS s r=⟨putQ s.q (itR r),putR r s.l⟩:=by
          unfold enterS layS joinQ;rw [hr,hjq];rfl
        rw [hE]
        refine ⟨p1,by rw [h.l],?_,p3.trans h.c,fun x hx=>?_,ord_put h.o⟩
        · refine p2.trans ?_
          have:=(put_perm (r:=r) (l:=A.l) k2).map itR
          exact ((h.p.cons _).trans this.symm)
        · rcases mem_put hx with rfl | hx
          · exact hr
          · exact h.r x hx
  · rw [if_neg e0]
    have:enterS s r=s:=by
      unfold enterS layS
      cases k:r.1.right
      · rfl
      · have:joinE s.q (itR r)≠0:=fun e=>e0 (by rw [← he];unfold enterE layE;rw [k];exact e)
        unfold joinQ
        rw [decide_eq_false this];rfl
    rw [this];exact h
theorem its_sans {l:List RT} {a:RT} (ho:OrdR l) (ha:a∈l):(delR (idR a) l).map itR=RB.sans (itR a) (l.map itR):=by
  unfold delR RB.sans
  rw [List.filter_map]
  congr 1
  refine List.filter_congr fun x hx=>?_
  simp only [Function.comp]
  by_cases e:idR x=idR a
  · have h1:=findR_at ho hx
    have h2:=findR_at ho ha
    rw [e,h2] at h1
    obtain rfl:=Option.some.inj h1
    simp
  · have:itR x≠itR a:=fun k=>e (by unfold idR;exact congrArg (fun z:IT=>z.1.id) k)
    simp [e,this]
theorem Rep.exit {s:Ss} {A:As} (h:Rep s A) {id:Int} {a:RT} (hf:findR A.l id=some a):s.q.f id=some (itR a)∧CutOk (itR a) s.q.t∧Rep (exitS s id) (extA A id):=by
  obtain ⟨h1,h2⟩:=findR_some hf
  have hfq:s.q.f id=some (itR a):=by rw [h.f,hf];rfl
  have hm:itR a∈s.q.t.list:=h.p.mem_iff.2 (List.mem_map_of_mem h1)
  obtain ⟨p1,p2,p3,p4,p5⟩:=h.q.cut hm
  have hE:exitS s id=⟨cutQ s.q (itR a),delR id s.l⟩:=by unfold exitS leaveQ;rw [hfq]
  refine ⟨hfq,p5,?_⟩
  unfold extA
  rw [hE,hf,h.l]
  refine ⟨p1,rfl,?_,?_,fun x hx=>h.r x (List.mem_filter.1 hx).1,ord_del h.o⟩
  · show (cutQ s.q (itR a)).t.list.Perm ((delR id A.l).map itR)
    rw [p2,← h2,its_sans h.o h1]
    unfold RB.sans
    exact h.p.filter _
  · show (cutQ s.q (itR a)).c=nowA A
    rw [p4,h.now]
theorem Rep.new (c:Int):Rep (newS c) ⟨[],c⟩:=⟨QI.new c,rfl,.refl _,rfl,by simp,List.Pairwise.nil⟩
end Go.Proofs.YtkbcfknnieggbaaGreatDoorX

namespace Go.Proofs.YtkbcfknnieggbaaGreatDoorX
open Go Go.RowKit
open IB (IT ITsAt flatT)
attribute [local irreducible] XS XC XA thenE blockE retE loopE loopS cutB cutN doneE SE
def othT (id:Int) (l:List IT):List IT:=l.filter fun a=>decide (a.1.id≠id)
theorem othT_snoc (id:Int) (l:List IT) (a:IT):othT id (l ++ [a])=if a.1.id=id then othT id l else othT id l ++ [a]:=by
  unfold othT
  rw [List.filter_append]
  by_cases h:a.1.id=id
  · rw [if_pos h];simp [h]
  · rw [if_neg h];simp [h]
theorem othT_le (id:Int) (l:List IT):(othT id l).length≤l.length:=List.length_filter_le _ _
set_option maxHeartbeats 4000000 in
theorem qothers_ret (qb:Nat) (s:Qs) (F:List Nat) (id:Int) (w0:World) (h:QAt w0 qb s F) (hm:s.t.list.length≤1000000) :
    Ret Tryz.prog 147 #[.pointer (some ⟨qb,0,none⟩),.int .i64 id] w0 fun v w'=>(∃ G,SlV w' 49 7 v (othT id s.t.list).length (flatT (othT id s.t.list)) G∧∀ k∈G,w0.heap.size≤k)∧Only [] w0 w':=by
  have hs:=St.nil w0
  refine ret_of_xc Tryz.func147 (by kernel_rfl) rfl Tryz.ntmps147 rfl rfl rfl ?_
  repeat' (first|refine vs (k:=?_)|refine qRg ?_|refine Nx.h ?_|fail)
  have hoa:=hs.only0 rfl
  (with_reducible apply xs_call);exact rfl;exact rfl;exact qitems_ret qb s F _ (h.only hoa) hm
  rintro v w1 ⟨⟨Gi,hGi,hGin⟩,ho1⟩
  generalize hl:s.t.list=l at *
  have hD:=IB.its_of hGi
  obtain ⟨ad,cap,rfl,hD⟩:=hD
  rw [List.length_map,List.length_map] at hD ⊢
  have hz1:=(hoa.trans ho1).size
  have hoA:Only [] w0 w1:=hoa.trans ho1
  clear hs
  have hs:=St.nil w1
  repeat' (first|refine vs (k:=?_)|refine Nx.h ?_|fail)
  refine xc_cutB (fun (v3:Value)=>[(5,v3)]) (fun v3 w=>Only [] w1 w∧∃ G,SlV w 49 7 v3 (othT id l).length (flatT (othT id l)) G∧∀ k∈G,w1.heap.size≤k) ?_ ?_
  · refine xc_loopS (fun (x:Nat × Value)=>[(1,.int .i64 id),(5,x.2),(9,.slice ad l.length cap),(10,.int .i64 (l.length:Nat)),(11,.int .i64 (x.1:Nat))])
      (fun x w=>x.1≤l.length∧Only [] w1 w∧∃ G,SlV w 49 7 x.2 (othT id (l.take x.1)).length (flatT (othT id (l.take x.1))) G∧∀ k∈G,w1.heap.size≤k) (fun x=>l.length - x.1) (0,.slice none 0 0) (by (repeat (first | exact agree_nil | (apply agree_cons;exact rfl)))) ⟨Nat.zero_le _,hs.only0 rfl,[],.inl ⟨rfl,rfl,rfl,rfl⟩,by simp⟩ fun x env wl ⟨hi,ho0,hT⟩=>?_
    obtain ⟨i,v5⟩:=x
    simp only at hi hT
    obtain ⟨G,hG,hGn⟩:=hT
    clear hs
    have hs:=St.nil wl
    repeat' (first|refine vs (k:=?_)|refine qRg ?_|refine Nx.h ?_|(refine xc_if rfl (fun hc=>?_) (fun hc=>?_))|fail)
    · have hlt:i < l.length:=by omega
      obtain ⟨b,off,cs,fz,rfl,_,hb,hcs⟩:=hD (fun h=>by have:=congrArg List.length h;rw [List.length_map,List.length_map,List.length_nil] at this;omega)
      have hpk:=hcs i (It.cells l[i].1) (by rw [List.getElem?_map,List.getElem?_map,List.getElem?_eq_getElem hlt];rfl)
      have ei:=nx64 (m:=l.length) hlt (by omega)
      have et:othT id (l.take (i+1))=if l[i].1.id=id then othT id (l.take i) else othT id (l.take i) ++ [l[i]]:=by rw [take_next hlt,othT_snoc]
      have hlG:=hG.lt
      have hle:=othT_le id (l.take i)
      rw [List.length_take] at hle
      generalize l[i]=q at *
      generalize othT id (l.take i)=A at *
      refine ix (h0:=(by omega)) (h1:=(by omega)) (k:=?_)
      refine lhK (ho0.block hb (by simp)) hpk (k:=?_)
      repeat' (first|refine vs (k:=?_)|(refine stA hs (k:=?_);intro w hs)|(refine al hs (k:=?_);intro b w hz hs)|(refine bs hs (k:=?_);intro b w hz hs)|refine qRg ?_|refine Nx.h ?_|(refine xc_cond rfl (fun hc=>?_) (fun hc=>?_))|fail)
      · rename_i hne
        have hb2:=hs.get At.head
        have ho2:=hs.only0 rfl
        refine xs_appendW tabOk rfl rfl rfl rfl rfl rfl rfl (by decide) (lit_cells (news:=q.1.cells) hb2) (by simp [Value.oneCell']) (hG.keep ho2 (by simp)) (by omega) (by omega) ?_
        intro v5' w4 ⟨G',hG',hGn'⟩ ho4
        have hz4:=ho2.size
        have hz0:=ho0.size
        clear hs
        have hs:=St.nil w4
        repeat' (first|refine vs (k:=?_)|refine qRg ?_|refine Nx.h ?_|fail)
        refine loopS_next (i+1,v5') (by show l.length - (i+1) < l.length - i;omega) (by (repeat (first | exact agree_nil | (apply agree_cons;first | exact rfl | exact congrArg (Value.int .i64) ei)))) ⟨by show i+1≤_;omega,((ho0.trans ho2).news hGn ho4).trans (hs.only0 rfl),G',?_,?_⟩
        · simp only [et]
          rw [if_neg (by simpa using hc),List.length_append,IB.flatT_app,show flatT [q]=q.1.cells by simp [flatT]]
          exact hG'.keep (hs.only0 rfl) (by simp)
        · intro k hk
          rcases hGn' k hk with h | h
          · exact hGn k h
          · omega
      · refine loopS_next (i+1,v5) (by show l.length - (i+1) < l.length - i;omega) (by (repeat (first | exact agree_nil | (apply agree_cons;first | exact rfl | exact congrArg (Value.int .i64) ei)))) ⟨by show i+1≤_;omega,ho0.trans (hs.only0 rfl),G,?_,hGn⟩
        simp only [et]
        rw [if_pos (by simpa using hc)]
        exact hG.keep (hs.only0 rfl) (by simp)
    · have e:i=l.length:=by omega
      subst e
      rw [List.take_length] at hG
      exact cutB_exit v5 (by (repeat (first | exact agree_nil | (apply agree_cons;exact rfl)))) ⟨ho0,G,hG,hGn⟩
  · rintro v5 env w ⟨ho0,G,hG,hGn⟩
    clear hs
    have hs:=St.nil w
    repeat' (first|refine vs (k:=?_)|refine qRg ?_|refine Nx.h ?_|fail)
    first | refine rt (hq:=?_) | refine rt' (hq:=?_)
    have ho3:=hs.only0 rfl
    exact ⟨⟨G,hG.keep ho3 (by simp),fun k hk=>by have:=hGn k hk;omega⟩,(hoA.trans ho0).trans ho3⟩
end Go.Proofs.YtkbcfknnieggbaaGreatDoorX

namespace Go.Proofs.YtkbcfknnieggbaaGreatDoorX
open Go Go.RowKit
open IB (IT ITsAt flatT)
attribute [local irreducible] XS XC XA thenE blockE retE loopE loopS cutB cutN doneE SE
def anchA:List It→Option Int
  | []=>none
  | x :: l=>(ofM x.p.t (places (x :: l))).bind flM
theorem ofL_in:∀ {l:List Pt} {m o:Mn},m.In→(∀ p∈l,p.In)→ofL m l=some o→o.In
  | [],m,o,h,_,e=>by cases e;exact h
  | p :: l,m,o,h,hp,e=>by
    simp only [ofL] at e
    cases e1:addM m p with
    | none=>rw [e1] at e;cases e
    | some m'=>rw [e1] at e;exact ofL_in (addM_in h e1) (fun q hq=>hp q (List.mem_cons_of_mem _ hq)) e
theorem ofM_in {b:Int} {l:List Pt} {o:Mn} (hb:U64 b) (hp:∀ p∈l,p.In) (e:ofM b l=some o):o.In:=ofL_in ⟨hb,inW0,u640,in640⟩ hp e
set_option maxHeartbeats 4000000 in
theorem anchor_ret (l:List It) (sl:Value) (hin:∀ x∈l,x.In) (hm:l.length≤1000000) (w0:World) (hP:ItsAt w0 sl l) :
    Ret Tryz.prog 148 #[sl] w0 fun v w'=>v=tmV (anchA l)∧Only [] w0 w':=by
  obtain ⟨ad,cap,rfl,hD⟩:=hP
  rw [List.length_map] at *
  have hs:=St.nil w0
  refine ret_of_xc Tryz.func148 (by kernel_rfl) rfl Tryz.ntmps148 rfl rfl rfl ?_
  repeat' (first|refine vs (k:=?_)|refine qRg ?_|refine Nx.h ?_|(refine xc_if rfl (fun hc=>?_) (fun hc=>?_))|fail)
  · obtain rfl:l=[]:=List.eq_nil_of_length_eq_zero (by omega)
    first | refine rt (hq:=?_) | refine rt' (hq:=?_)
    exact ⟨rfl,hs.only0 rfl⟩
  · have hl:l≠[]:=fun e=>hc (by rw [e];rfl)
    refine xc_cutB (fun (v3:Value)=>[(0,.slice ad l.length cap),(4,v3)]) (fun v3 w=>Only [] w0 w∧∃ G,SlV w 47 3 v3 l.length (flatP (places l)) G) ?_ ?_
    · refine xc_loopS (fun (x:Nat × Value)=>[(0,.slice ad l.length cap),(4,x.2),(12,.slice ad l.length cap),(13,.int .i64 (l.length:Nat)),(14,.int .i64 (x.1:Nat))])
        (fun x w=>x.1≤l.length∧Only [] w0 w∧∃ G,SlV w 47 3 x.2 x.1 (flatP (places (l.take x.1))) G∧∀ k∈G,w0.heap.size≤k) (fun x=>l.length - x.1) (0,.slice none 0 0) (by (repeat (first | exact agree_nil | (apply agree_cons;exact rfl)))) ⟨Nat.zero_le _,hs.only0 rfl,[],.inl ⟨rfl,rfl,rfl,rfl⟩,by simp⟩ fun x env wl ⟨hi,ho0,hT⟩=>?_
      obtain ⟨i,v5⟩:=x
      simp only at hi hT
      obtain ⟨G,hG,hGn⟩:=hT
      clear hs
      have hs:=St.nil wl
      repeat' (first|refine vs (k:=?_)|refine qRg ?_|refine Nx.h ?_|(refine xc_if rfl (fun hc=>?_) (fun hc=>?_))|fail)
      · have hlt:i < l.length:=by omega
        obtain ⟨b,off,cs,fz,rfl,_,hb,hcs⟩:=hD (fun h=>by have:=congrArg List.length h;rw [List.length_map,List.length_nil] at this;omega)
        have hpk:=hcs i (It.cells l[i]) (by rw [List.getElem?_map,List.getElem?_eq_getElem hlt];rfl)
        have ei:=nx64 (m:=l.length) hlt (by omega)
        have et:places (l.take (i+1))=places (l.take i) ++ [l[i].p]:=by rw [take_next hlt];unfold places;rw [List.map_append];rfl
        have hlG:=hG.lt
        generalize l[i]=q at *
        generalize places (l.take i)=A at *
        refine ix (h0:=(by omega)) (h1:=(by omega)) (k:=?_)
        refine lhK (ho0.block hb (by simp)) hpk (k:=?_)
        repeat' (first|refine vs (k:=?_)|(refine stA hs (k:=?_);intro w hs)|(refine al hs (k:=?_);intro b w hz hs)|(refine bs hs (k:=?_);intro b w hz hs)|refine qRg ?_|refine Nx.h ?_|fail)
        have hb2:=hs.get At.head
        have ho2:=hs.only0 rfl
        refine xs_appendW tabOk rfl rfl rfl rfl rfl rfl rfl (by decide) (lit_cells (news:=q.p.cells) hb2) (by simp [Value.oneCell']) (hG.keep ho2 (by simp)) (by omega) (by omega) ?_
        intro v5' w4 ⟨G',hG',hGn'⟩ ho4
        have hz4:=ho2.size
        have hz0:=ho0.size
        clear hs
        have hs:=St.nil w4
        repeat' (first|refine vs (k:=?_)|refine qRg ?_|refine Nx.h ?_|fail)
        refine loopS_next (i+1,v5') (by show l.length - (i+1) < l.length - i;omega) (by (repeat (first | exact agree_nil | (apply agree_cons;first | exact rfl | exact congrArg (Value.int .i64) ei)))) ⟨by show i+1≤_;omega,((ho0.trans ho2).news hGn ho4).trans (hs.only0 rfl),G',?_,?_⟩
        · simp only [et]
          rw [flatP_app,show flatP [q.p]=q.p.cells by simp [flatP]]
          exact hG'.keep (hs.only0 rfl) (by simp)
        · intro k hk
          rcases hGn' k hk with h | h
          · exact hGn k h
          · omega
      · have e:i=l.length:=by omega
        subst e
        rw [List.take_length] at hG
        exact cutB_exit v5 (by (repeat (first | exact agree_nil | (apply agree_cons;exact rfl)))) ⟨ho0,G,hG⟩
    · rintro v5 env w ⟨ho0,G,hG⟩
      clear hs
      obtain ⟨x,r,rfl⟩:=List.exists_cons_of_ne_nil hl
      obtain ⟨b,off,cs,fz,rfl,_,hb,hcs⟩:=hD (fun h=>by simp at h)
      have hpk:=hcs 0 (It.cells x) rfl
      have hx:=hin x List.mem_cons_self
      have hP:PsAt w v5 (places (x :: r)):=hG.ls rfl (by simp [places]) (fun y hy=>flatP_len _ y hy)
      have hs:=St.nil w
      repeat' (first|refine vs (k:=?_)|refine qRg ?_|refine Nx.h ?_|fail)
      refine ix (i:=0) (h0:=by decide) (h1:=by simp) (k:=?_)
      repeat' (first|refine vs (k:=?_)|fail)
      refine lh (v := .int .u64 x.p.t) (ho0.block hb (by simp)) (by cases hpk;assumption) (k:=?_)
      repeat' (first|refine vs (k:=?_)|fail)
      (with_reducible apply xs_call);exact rfl;exact rfl;exact of_mean_ret x.p.t (places (x :: r)) v5 hx.1.1 (fun p hp=>by obtain ⟨y,hy,rfl⟩:=List.mem_map.1 hp;exact (hin y hy).1) (by simp [places] at hm ⊢;omega) _ (hP.only (hs.only0 rfl))
      have eA:anchA (x :: r)=(ofM x.p.t (places (x :: r))).bind flM:=rfl
      rw [eA]
      cases hM:ofM x.p.t (places (x :: r)) with
      | none =>
        rintro v w' ⟨rfl,ho⟩;replace hs:=hs.call0 ho;repeat' (first|refine vs (k:=?_)|(refine stA hs (k:=?_);intro w hs)|(refine al hs (k:=?_);intro b w hz hs)|refine qRg ?_|refine Nx.h ?_|refine qCt ?_|fail)
        first | refine rt (hq:=?_) | refine rt' (hq:=?_)
        exact ⟨rfl,ho0.trans (hs.only0 rfl)⟩
      | some m =>
        have hmi:m.In:=ofM_in hx.1.1 (fun p hp=>by obtain ⟨y,hy,rfl⟩:=List.mem_map.1 hp;exact (hin y hy).1) hM
        rintro v w' ⟨rfl,ho⟩;replace hs:=hs.call0 ho;repeat' (first|refine vs (k:=?_)|(refine stA hs (k:=?_);intro w hs)|(refine al hs (k:=?_);intro b w hz hs)|refine qRg ?_|refine Nx.h ?_|refine qCf ?_|fail)
        (with_reducible apply xs_call);exact rfl;exact rfl;exact floor_ret m hmi _
        rintro v w' ⟨rfl,ho⟩;replace hs:=hs.call0 ho;repeat' (first|refine vs (k:=?_)|refine Nx.h ?_|fail)
        first | refine rt (hq:=?_) | refine rt' (hq:=?_)
        exact ⟨rfl,ho0.trans (hs.only0 rfl)⟩
end Go.Proofs.YtkbcfknnieggbaaGreatDoorX

namespace Go.Proofs.YtkbcfknnieggbaaGreatDoorX
open Go Go.RowKit
open IB (IT ITsAt flatT)
attribute [local irreducible] XS XC XA thenE blockE retE loopE loopS cutB cutN doneE SE
def flatR (l:List RT):List Value:=(l.map fun a=>a.1.cells).flatten
theorem flatR_app (a b:List RT):flatR (a ++ b)=flatR a ++ flatR b:=by simp [flatR]
set_option maxHeartbeats 4000000 in
theorem reqs_ret (sb:Nat) (s:Ss) (F:List Nat) (w0:World) (h:SAt w0 sb s F) (hn:s.l.length≤1000000) :
    Ret Tryz.prog 17 #[.pointer (some ⟨sb,0,none⟩)] w0 fun v w'=>(∃ G,SlV w' 51 10 v s.l.length (flatR s.l) G∧∀ k∈G,w0.heap.size≤k)∧Only [] w0 w':=by
  obtain ⟨qb,mb,Fq,rfl,h1,h2,h3,h4,h5⟩:=h
  have hs:=(St.nil w0).track h1 (by simp)
  refine ret_of_xc Tryz.func17 (by kernel_rfl) rfl Tryz.ntmps17 rfl rfl rfl ?_
  repeat' (first|refine vs (k:=?_)|refine qRg ?_|refine Nx.h ?_|refine qCf ?_|fail)
  have ho:=hs.onlyF [] (by simp [h1]) (by simp [D0])
  (with_reducible apply xs_call);exact rfl;exact rfl;exact keys_ret mb _
  rintro v w1 ⟨rfl,rfl⟩
  (with_reducible apply xs_call);exact rfl;exact rfl;exact sorted_ret mb s.l.length (rvals s.l) (s.l.map idR) w0 h2 hn h5 (ids_iff s.l)
  rintro v2 w2 ⟨⟨ad,cap,rfl,hD⟩,_,ho2⟩
  have hoA:Only [] w0 w2:=(((St.nil w0).alloc _).only0 rfl).trans ho2
  clear hs ho ho2
  rw [List.length_map,List.length_map]
  have hsb2:=hoA.block h1 (by simp)
  have hM2:=h2.keep hoA (by simp)
  have hz2:=hoA.size
  rw [List.length_map,List.length_map] at hD
  have hs:=(St.nil w2).track hsb2 (by simp)
  repeat' (first|refine vs (k:=?_)|refine Nx.h ?_|fail)
  refine xc_cutB (fun (v3:Value)=>[(3,v3)]) (fun v3 w=>Only [] w2 w∧∃ G,SlV w 51 10 v3 s.l.length (flatR s.l) G∧∀ k∈G,w2.heap.size≤k) ?_ ?_
  · refine xc_loopS (fun (x:Nat × Value)=>[(0,.pointer (some ⟨sb,0,none⟩)),(3,x.2),(13,.slice ad s.l.length cap),(14,.int .i64 (s.l.length:Nat)),(15,.int .i64 (x.1:Nat))])
      (fun x w=>x.1≤s.l.length∧Only [] w2 w∧∃ G,SlV w 51 10 x.2 x.1 (flatR (s.l.take x.1)) G∧∀ k∈G,w2.heap.size≤k) (fun x=>s.l.length - x.1) (0,.slice none 0 0) (by (repeat (first | exact agree_nil | (apply agree_cons;exact rfl)))) ⟨Nat.zero_le _,hs.onlyF [] (by simp [hsb2]) (by simp [D0]),[],.inl ⟨rfl,rfl,rfl,rfl⟩,by simp⟩ fun x env wl ⟨hi,ho0,hT⟩=>?_
    obtain ⟨i,v5⟩:=x
    simp only at hi hT
    obtain ⟨G,hG,hGn⟩:=hT
    clear hs
    have hsl:=ho0.block hsb2 (by simp)
    have hs:=(St.nil wl).track hsl (by simp)
    repeat' (first|refine vs (k:=?_)|refine qRg ?_|refine Nx.h ?_|(refine xc_if rfl (fun hc=>?_) (fun hc=>?_))|fail)
    · have hlt:i < s.l.length:=by omega
      obtain ⟨b,off,cs,fz,rfl,_,hb,hcs⟩:=hD (fun h=>by simp at h;rw [h] at hlt;cases hlt)
      have hpk:=hcs i (intR (idR s.l[i])) (by rw [List.getElem?_map,List.getElem?_map,List.getElem?_eq_getElem hlt];rfl)
      have ei:=nx64 (m:=s.l.length) hlt (by omega)
      have et:flatR (s.l.take (i+1))=flatR (s.l.take i) ++ s.l[i].1.cells:=by rw [take_next hlt,flatR_app];simp [flatR]
      have hfa:=findR_at h5 (List.getElem_mem hlt)
      have hlk:getL s.l (idR s.l[i])=s.l[i].1:=by unfold getL;rw [hfa]
      have hin:=s.l[i].2.1.2.1
      generalize s.l[i]=q at *
      refine ix (h0:=(by omega)) (h1:=(by omega)) (k:=?_)
      refine lh (ho0.block hb (by simp)) (by cases hpk;assumption) (k:=?_)
      repeat' (first|refine vs (k:=?_)|refine qRg ?_|refine Nx.h ?_|fail)
      refine xs_look1 (e:=51) (z:=rv .zero) (i:=idR q) (hM2.keep ho0 (by simp)) hin (by kernel_rfl) (by kernel_rfl) (k:=?_)
      rw [rvals_get,hlk]
      refine bs hs (k:=?_);intro b26 w26 hz26 hs
      have hb26:=hs.get At.head
      have hlG:=hG.lt
      have ho26:=hs.onlyF [] (by simp [hsl]) (by simp [D0])
      refine xs_appendW tabOk rfl rfl rfl rfl rfl rfl rfl (by decide) (lit_cells (news:=q.1.cells) hb26) (by simp [Value.oneCell']) (hG.keep ho26 (by simp)) (by omega) (by omega) ?_
      intro v5' w4 ⟨G',hG',hGn'⟩ ho4
      have hz4:=ho26.size
      have hz0:=ho0.size
      clear hs
      have hs:=St.nil w4
      repeat' (first|refine vs (k:=?_)|refine qRg ?_|refine Nx.h ?_|fail)
      refine loopS_next (i+1,v5') (by show s.l.length - (i+1) < s.l.length - i;omega) (by (repeat (first | exact agree_nil | (apply agree_cons;first | exact rfl | exact congrArg (Value.int .i64) ei)))) ⟨by show i+1≤_;omega,((ho0.trans ho26).news hGn ho4).trans (hs.only0 rfl),G',?_,?_⟩
      · simp only [et]
        exact hG'.keep (hs.only0 rfl) (by simp)
      · intro k hk
        rcases hGn' k hk with h | h
        · exact hGn k h
        · omega
    · have e:i=s.l.length:=by omega
      subst e
      rw [List.take_length] at hG
      exact cutB_exit v5 (by (repeat (first | exact agree_nil | (apply agree_cons;exact rfl)))) ⟨ho0,G,hG,hGn⟩
  · rintro v5 env w ⟨ho0,G,hG,hGn⟩
    clear hs
    have hs:=St.nil w
    repeat' (first|refine vs (k:=?_)|refine qRg ?_|refine Nx.h ?_|fail)
    first | refine rt (hq:=?_) | refine rt' (hq:=?_)
    exact ⟨⟨G,hG.keep (hs.only0 rfl) (by simp),fun k hk=>by have:=hGn k hk;omega⟩,(hoA.trans ho0).trans (hs.only0 rfl)⟩
end Go.Proofs.YtkbcfknnieggbaaGreatDoorX

namespace Go.Proofs.YtkbcfknnieggbaaGreatDoorX
open Go Go.RowKit
open IB (IT ITsAt flatT)
attribute [local irreducible] XS XC XA thenE blockE retE loopE loopS cutB cutN doneE SE
abbrev RsAt (w:World) (v:Value) (l:List RT):Prop:=LsAt w 51 10 v (l.map fun a=>a.1.cells)
theorem rs_of {w:World} {v:Value} {l:List RT} {G:List Nat} (h:SlV w 51 10 v l.length (flatR l) G):RsAt w v l :=
  h.ls rfl (by simp) (fun x hx=>by obtain ⟨a,_,rfl⟩:=List.mem_map.1 hx;rfl)
def runN (l:List RT):Nat:=(l.filter fun a=>!a.1.asleep).length
theorem runN_app (a b:List RT):runN (a ++ b)=runN a+runN b:=by simp [runN,List.filter_append]
theorem runN_le (l:List RT):runN l≤l.length:=List.length_filter_le _ _
set_option maxHeartbeats 2000000 in
theorem runnable_ret (sb:Nat) (s:Ss) (F:List Nat) (w0:World) (h:SAt w0 sb s F) (hn:s.l.length≤1000000) :
    Ret Tryz.prog 19 #[.pointer (some ⟨sb,0,none⟩)] w0 fun v w'=>v = .int .i64 (runN s.l:Nat)∧Only [] w0 w':=by
  have hs:=St.nil w0
  refine ret_of_xc Tryz.func19 (by kernel_rfl) rfl Tryz.ntmps19 rfl rfl rfl ?_
  repeat' (first|refine vs (k:=?_)|refine qRg ?_|refine Nx.h ?_|fail)
  have ho:=hs.only0 rfl
  (with_reducible apply xs_call);exact rfl;exact rfl;exact reqs_ret sb s F _ (h.only ho) hn
  rintro v2 w2 ⟨⟨G,hG,_⟩,ho2⟩
  obtain ⟨ad,cap,rfl,hD⟩:=rs_of hG
  rw [List.length_map]
  rw [List.length_map] at hD
  have hoA:=ho.trans ho2
  clear hs
  have hs:=St.nil w2
  repeat' (first|refine vs (k:=?_)|refine Nx.h ?_|fail)
  refine xc_cutB (fun (_:Unit)=>[(3,.int .i64 (runN s.l:Nat))]) (fun _ w=>Only [] w2 w) ?_ ?_
  · refine xc_loopS (fun (x:Nat)=>[(3,.int .i64 (runN (s.l.take x):Nat)),(7,.slice ad s.l.length cap),(8,.int .i64 (s.l.length:Nat)),(9,.int .i64 (x:Nat))])
      (fun x w=>x≤s.l.length∧Only [] w2 w) (fun x=>s.l.length - x) 0 (by (repeat (first | exact agree_nil | (apply agree_cons;exact rfl)))) ⟨Nat.zero_le _,hs.only0 rfl⟩ fun i env wl ⟨hi,ho0⟩=>?_
    clear hs
    have hs:=St.nil wl
    repeat' (first|refine vs (k:=?_)|refine qRg ?_|refine Nx.h ?_|(refine xc_if rfl (fun hc=>?_) (fun hc=>?_))|fail)
    · have hlt:i < s.l.length:=by omega
      obtain ⟨b,off,cs,fz,rfl,_,hb,hcs⟩:=hD (fun h=>by rw [List.map_eq_nil_iff.1 h] at hlt;cases hlt)
      have hpk:=hcs i (Rq.cells s.l[i].1) (by rw [List.getElem?_map,List.getElem?_eq_getElem hlt];rfl)
      have ei:=nx64 (m:=s.l.length) hlt (by omega)
      have et:runN (s.l.take (i+1))=runN (s.l.take i)+bif s.l[i].1.asleep then 0 else 1:=by rw [take_next hlt,runN_app];congr 1;unfold runN;rw [List.filter_cons,List.filter_nil];cases s.l[i].1.asleep <;> rfl
      have hle:=runN_le (s.l.take i)
      rw [List.length_take] at hle
      have ec:=nx64 (i:=runN (s.l.take i)) (m:=s.l.length+1) (by omega) (by omega)
      generalize s.l[i]=q at *
      refine ix (h0:=(by omega)) (h1:=(by omega)) (k:=?_)
      refine lhK (ho0.block hb (by simp)) hpk (k:=?_)
      refine al hs (k:=?_);intro b8 w8 hz hs
      repeat' (first|refine vs (k:=?_)|(refine stA hs (k:=?_);intro w hs)|refine qRg ?_|refine Nx.h ?_|(refine xc_cond rfl (fun hc=>?_) (fun hc=>?_))|fail)
      · have eq:q.1.asleep=false:=by simpa using ‹(!q.1.asleep)=true›
        rw [eq] at et
        refine loopS_next (i+1) (by show s.l.length - (i+1) < s.l.length - i;omega) ?_ ⟨by show i+1≤_;omega,ho0.trans (hs.only0 rfl)⟩
        rw [et]
        (repeat (first | exact agree_nil | (apply agree_cons;first | exact rfl | exact congrArg (Value.int .i64) ei | exact congrArg (Value.int .i64) ec)))
      · have eq:q.1.asleep=true:=by simpa using ‹(!q.1.asleep)=false›
        rw [eq] at et
        refine loopS_next (i+1) (by show s.l.length - (i+1) < s.l.length - i;omega) ?_ ⟨by show i+1≤_;omega,ho0.trans (hs.only0 rfl)⟩
        rw [et]
        (repeat (first | exact agree_nil | (apply agree_cons;first | exact rfl | exact congrArg (Value.int .i64) ei)))
    · have e:i=s.l.length:=by omega
      subst e
      rw [List.take_length]
      exact cutB_exit () (by (repeat (first | exact agree_nil | (apply agree_cons;exact rfl)))) ho0
  · rintro _ env w ho0
    clear hs
    have hs:=St.nil w
    repeat' (first|refine vs (k:=?_)|refine qRg ?_|refine Nx.h ?_|fail)
    first | refine rt (hq:=?_) | refine rt' (hq:=?_)
    exact ⟨rfl,(hoA.trans ho0).trans (hs.only0 rfl)⟩
end Go.Proofs.YtkbcfknnieggbaaGreatDoorX

namespace Go.Proofs.YtkbcfknnieggbaaGreatDoorX
open Go Go.RowKit
open IB (IT ITsAt flatT)
attribute [local irreducible] XS XC XA thenE blockE retE loopE loopS cutB cutN doneE SE
structure Gn where
  id:Int
  lag:Int
  r:Rq
abbrev Gn.cells (g:Gn):List Value := .int .i64 g.id :: .int .i64 (g.lag / 18446744073709551616) :: .int .u64 (g.lag % 18446744073709551616) :: g.r.cells
def gv (g:Gn):Value := .agg g.cells.toArray
def Gn.zero:Gn:=⟨0,0,.zero⟩
def goes (q:Qs) (a:RT):Bool:=a.1.asleep && decide (owedQ q (idR a)≥0)
def gnOf (q:Qs) (a:RT):Gn:=⟨idR a,lagQ q (idR a),a.1⟩
def nextS (s:Ss):Option Gn:=(s.l.find? (goes s.q)).map (gnOf s.q)
def gnV (o:Option Gn):Value := .tuple #[gv (o.getD .zero),.bool o.isSome]
theorem find_next {l:List RT} {p:RT→Bool} {i:Nat} (h:i < l.length) (hn:(l.take i).find? p=none) (hp:p l[i]=false):(l.take (i+1)).find? p=none:=by
  rw [take_next h,List.find?_append,hn,List.find?_singleton,hp];rfl
theorem find_here {l:List RT} {p:RT→Bool} {i:Nat} (h:i < l.length) (hn:(l.take i).find? p=none) (hp:p l[i]=true):l.find? p=some l[i]:=by
  conv=>lhs;rw [← List.take_append_drop i l]
  rw [List.find?_append,hn,List.drop_eq_getElem_cons h,List.find?_cons,hp];rfl
set_option maxHeartbeats 4000000 in
theorem next_ret (sb:Nat) (s:Ss) (F:List Nat) (w0:World) (h:SAt w0 sb s F) (hn:s.l.length≤1000000) :
    Ret Tryz.prog 98 #[.pointer (some ⟨sb,0,none⟩)] w0 fun v w'=>v=gnV (nextS s)∧Only [] w0 w':=by
  have hS:=h
  obtain ⟨qb,mb,Fq,rfl,h1,h2,h3,h4,h5⟩:=h
  have hs:=(St.nil w0).track h1 (by simp)
  refine ret_of_xc Tryz.func98 (by kernel_rfl) rfl Tryz.ntmps98 rfl rfl rfl ?_
  refine xc_seq ?_
  refine xc_region ?_ ?_;exact rfl
  refine al hs (k:=?_);intro b2 w hz hs
  have g2:=hs.new (b2,true) (by simp) rfl
  simp only at g2
  repeat' (first|refine vs (k:=?_)|refine qRg ?_|refine Nx.h ?_|fail)
  have ho:=hs.onlyF [] (by simp [h1]) (by simp [D0])
  (with_reducible apply xs_call);exact rfl;exact rfl;exact reqs_ret sb s _ _ (hS.only ho) hn
  rintro v2 w2 ⟨⟨G,hG,_⟩,ho2⟩;replace hs:=hs.call0 ho2
  have hD:=rs_of hG
  obtain ⟨ad,cap,rfl,hD⟩:=hD
  rw [List.length_map]
  rw [List.length_map] at hD
  have hk2:=hs.get At.head
  have hsb2:=hs.get (At.tail At.head)
  have n2s:b2≠sb:=by have:=lt_of_block h1;omega
  have hoA:Only [] w0 w2:=hs.onlyF [] (by simp [h1]) (by simp [D0])
  have hz2:=hoA.size
  clear hs
  have hs:=((St.nil w2).track hsb2 (by simp)).track hk2 (by simpa using n2s)
  repeat' (first|refine vs (k:=?_)|refine Nx.h ?_|fail)
  refine xc_cutB (fun (_:Unit)=>[(0,.pointer (some ⟨sb,0,none⟩)),(2,.pointer (some ⟨b2,0,none⟩))]) (fun _ w=>Only [] w2 w∧nextS s=none) ?_ ?_
  · refine xc_loopS (fun (x:Nat)=>[(0,.pointer (some ⟨sb,0,none⟩)),(2,.pointer (some ⟨b2,0,none⟩)),(11,.slice ad s.l.length cap),(12,.int .i64 (s.l.length:Nat)),(13,.int .i64 (x:Nat))])
      (fun x w=>x≤s.l.length∧Only [] w2 w∧(s.l.take x).find? (goes s.q)=none) (fun x=>s.l.length - x) 0 (by (repeat (first | exact agree_nil | (apply agree_cons;exact rfl)))) ⟨Nat.zero_le _,hs.onlyF [] (by simp [hsb2,hk2]) (by simp [D0]),rfl⟩ fun i env wl ⟨hi,ho0,hnone⟩=>?_
    clear hs
    have hbl:=ho0.block hk2 (by simp)
    have hsl:=ho0.block hsb2 (by simp)
    have hs:=((St.nil wl).track hsl (by simp)).track hbl (by simpa using n2s)
    have hSl:=hS.only (hoA.trans ho0)
    repeat' (first|refine vs (k:=?_)|refine qRg ?_|refine Nx.h ?_|(refine xc_if rfl (fun hc=>?_) (fun hc=>?_))|fail)
    · have hlt:i < s.l.length:=by omega
      obtain ⟨b,off,cs,fz,rfl,_,hb,hcs⟩:=hD (fun h=>by rw [List.map_eq_nil_iff.1 h] at hlt;cases hlt)
      have hpk:=hcs i (Rq.cells s.l[i].1) (by rw [List.getElem?_map,List.getElem?_eq_getElem hlt];rfl)
      have ei:=nx64 (m:=s.l.length) hlt (by omega)
      have eNo:=find_next hlt hnone
      have eHe:=find_here hlt hnone
      have hin:=s.l[i].2.1.2.1
      generalize s.l[i]=q at *
      refine ix (h0:=(by omega)) (h1:=(by omega)) (k:=?_)
      refine lhK (ho0.block hb (by simp)) hpk (k:=?_)
      refine al hs (k:=?_);intro b8 w8 hz hs
      repeat' (first|(refine stA hs (k:=?_);intro w hs)|refine Nx.h ?_|fail)
      refine dr [] hs (k:=?_);intro hX w hs
      refine tk 0 hX (k:=?_)
      refine tk 1 hX (k:=?_)
      refine tk 2 hX (k:=?_)
      refine tk 3 hX (k:=?_)
      refine tk 4 hX (k:=?_)
      refine tk 5 hX (k:=?_)
      refine tk 6 hX (k:=?_)
      refine dt 7 hX (k:=?_)
      have hoB:=(hoA.trans ho0).trans (hs.onlyF [] (by simp [hsl,hbl]) (by simp [D0]))
      (with_reducible apply xs_call);exact rfl;exact rfl;exact qowed_ret qb s.q Fq (idR q) _ (h3.only hoB) hin
      generalize hg:owedQ s.q (idR q)=ow
      generalize errN (s.q.f (idR q)).isSome=er
      rintro v w' ⟨rfl,ho⟩;replace hs:=hs.call0 ho;repeat' (first|refine Nx.h ?_|fail)
      refine dn (k:=?_)
      refine tk 8 hX (k:=?_)
      refine tk 9 hX (k:=?_)
      refine tk 10 hX (k:=?_)
      refine tk 11 hX (k:=?_)
      refine tk 12 hX (k:=?_)
      refine en (k:=?_)
      repeat' (first|refine vs (k:=?_)|refine ps (k:=?_)|refine qRg ?_|refine Nx.h ?_|refine qCf ?_|((with_reducible apply xs_guard);exact rfl;exact rfl;intro c hc;(fail_if_success have:true=c:=hc);(fail_if_success have:false=c:=hc);cases c)|(refine xc_if rfl (fun hc=>?_) (fun hc=>?_))|fail)
      · have ef:goes s.q q=false:=by unfold goes;rw [show q.1.asleep=false by assumption];rfl
        exact loopS_next (i+1) (by show s.l.length - (i+1) < s.l.length - i;omega) (by (repeat (first | exact agree_nil | (apply agree_cons;first | exact rfl | exact congrArg (Value.int .i64) ei)))) ⟨by show i+1≤_;omega,ho0.trans (hs.onlyF [] (by simp [hsl,hbl]) (by simp [D0])),eNo ef⟩
      · have ef:goes s.q q=true:=by unfold goes;rw [show q.1.asleep=true by assumption,hg,decide_eq_true (show ow≥0 by assumption)];rfl
        have ev:nextS s=some (gnOf s.q q):=by unfold nextS;rw [eHe ef];rfl
        refine dr [] hs (k:=?_);intro hX w hs
        refine tk 0 hX (k:=?_)
        refine tk 1 hX (k:=?_)
        refine tk 2 hX (k:=?_)
        refine tk 3 hX (k:=?_)
        refine tk 4 hX (k:=?_)
        refine tk 5 hX (k:=?_)
        refine tk 6 hX (k:=?_)
        refine pd0 11 8 hs (k:=?_);intro f X w hp;have hs:=hp.st
        apply xa_pend 7 11 (f:=f) (X:=X) hX hp;exact rfl;exact rfl;(apply makes_alloc tabOk;exact rfl);kernel_rfl;kernel_rfl;kernel_rfl;kernel_rfl;(intro X Y;(repeat (first | exact pgg_base | refine pgg_step ?_ (by exact rfl))));(intro w' hs;first|exact se_hold hs.hold|exact se_hold hs.hold.tail|exact se_done rfl);intro f X w hp;have hs:=hp.st
        have hoC:=(hoA.trans ho0).trans (hs.onlyF [] (by simp [hsl,hbl]) (by simp [D0]))
        (with_reducible apply xs_call);exact rfl;exact rfl;exact qlag_ret qb s.q Fq (idR q) _ (h3.only hoC) hin
        rintro v w' ⟨rfl,ho⟩;replace hp:=hp.only ho;replace hs:=hp.st;repeat' (first|refine Nx.h ?_|fail)
        refine dn (k:=?_)
        refine tk 8 hX (hc:=by cases f <;> kernel_rfl) (k:=?_)
        refine tk 9 hX (hc:=by cases f <;> kernel_rfl) (k:=?_)
        refine tk 10 hX (hc:=by cases f <;> kernel_rfl) (k:=?_)
        apply xa_pendE 11 (f:=f) (X:=X) hX hp;exact rfl;(apply makes_alloc tabOk;exact rfl);kernel_rfl;kernel_rfl;(intro X Y;(repeat (first | exact pgg_base | refine pgg_step ?_ (by exact rfl))));(intro w' hs;first|exact se_hold hs.hold|exact se_hold hs.hold.tail|exact se_done rfl);intro b w hI hs
        refine dt 12 hX (k:=?_)
        repeat' (first|(refine stA hs (k:=?_);intro w hs)|refine Nx.h ?_|fail)
        refine dn (k:=?_)
        refine tk 13 hX (k:=?_)
        refine en (k:=?_)
        repeat' (first|refine vs (k:=?_)|(refine stA hs (k:=?_);intro w hs)|refine qRg ?_|refine Nx.h ?_|fail)
        first | refine rt (hq:=?_) | refine rt' (hq:=?_)
        rw [ev]
        exact ⟨rfl,(hoA.trans ho0).step (hs.onlyF [b2] (by simp [hsl]) (by simp [D0])) (fun k hk => .inr (by obtain rfl:=List.mem_singleton.1 hk;exact g2))⟩
      · have ef:goes s.q q=false:=by unfold goes;rw [hg,decide_eq_false (show ¬ ow≥0 by assumption),Bool.and_false]
        exact loopS_next (i+1) (by show s.l.length - (i+1) < s.l.length - i;omega) (by (repeat (first | exact agree_nil | (apply agree_cons;first | exact rfl | exact congrArg (Value.int .i64) ei)))) ⟨by show i+1≤_;omega,ho0.trans (hs.onlyF [] (by simp [hsl,hbl]) (by simp [D0])),eNo ef⟩
    · have e:i=s.l.length:=by omega
      subst e
      rw [List.take_length] at hnone
      exact cutB_exit () (by (repeat (first | exact agree_nil | (apply agree_cons;exact rfl)))) ⟨ho0,by unfold nextS;rw [hnone];rfl⟩
  · rintro _ env w ⟨ho0,hnone⟩
    clear hs
    have hbl:=ho0.block hk2 (by simp)
    have hs:=(St.nil w).track hbl (by simp)
    repeat' (first|refine vs (k:=?_)|(refine stA hs (k:=?_);intro w hs)|refine qRg ?_|refine Nx.h ?_|fail)
    first | refine rt (hq:=?_) | refine rt' (hq:=?_)
    rw [hnone]
    exact ⟨rfl,(hoA.trans ho0).step (hs.onlyF [b2] (by simp) (by simp [D0])) (fun k hk => .inr (by obtain rfl:=List.mem_singleton.1 hk;exact g2))⟩
end Go.Proofs.YtkbcfknnieggbaaGreatDoorX

namespace Go.Proofs.YtkbcfknnieggbaaGreatDoorX
open Go Go.RowKit
open IB (IT ITsAt flatT)
attribute [local irreducible] XS XC XA thenE blockE retE loopE loopS cutB cutN doneE SE
inductive Flushes:Ss→List Gn→Ss→Prop
  | done {s:Ss}:nextS s=none→Flushes s [] s
  | step {s s':Ss} {g:Gn} {l:List Gn} {a:IT}:nextS s=some g→s.q.f g.id=some a→CutOk a s.q.t→Flushes (exitS s g.id) l s'→Flushes s (g :: l) s'
def flatG (l:List Gn):List Value:=(l.map Gn.cells).flatten
theorem flatG_snoc (l:List Gn) (g:Gn):flatG (l ++ [g])=flatG l ++ g.cells:=by simp [flatG]
theorem next_id {s:Ss} {g:Gn} (h:nextS s=some g):In64 g.id:=by
  obtain ⟨a,_,rfl⟩:=Option.map_eq_some_iff.1 h
  exact a.2.1.2.1
theorem cutT_len {a:IT} {t:RB IT} (h:CutOk a t):(cutT a t).list.length≤t.list.length:=by
  unfold cutT
  cases e:RB.has IB.ltT a t
  · exact Nat.le_refl _
  · have:=(h e).2
    rw [cond_true,RB.list_blacken]
    omega
theorem exit_small {s:Ss} {id:Int} {a:IT} (hf:s.q.f id=some a) (hc:CutOk a s.q.t) (ho:OrdR s.l):(exitS s id).l.length≤s.l.length∧(exitS s id).q.t.list.length≤s.q.t.list.length:=by
  constructor
  · show (delR id s.l).length≤_
    rw [len_del ho]
    split <;> omega
  · show (leaveQ s.q id).t.list.length≤_
    unfold leaveQ
    rw [hf]
    exact cutT_len hc
theorem SAt.ord {w:World} {sb:Nat} {s:Ss} {F:List Nat} (h:SAt w sb s F):OrdR s.l:=by obtain ⟨qb,mb,Fq,rfl,h1,h2,h3,h4,h5⟩:=h;exact h5
theorem slv_set {w:World} {e k n:Nat} {v:Value} {xs:List Value} {G F:List Nat} {sb:Nat} {s:Ss} (h:SlV w e k v n xs G) (hS:SAt w sb s F) (ho:okS (.cells #[] e (0,0))=true):∀ b∈G,b∉F:=fun b hb=>by
  rcases h with ⟨_,_,_,rfl⟩ | ⟨g,cap,cur,_,rfl,_,_,_,_,hg⟩
  · cases hb
  · obtain rfl:=List.mem_singleton.1 hb
    exact hS.not hg ho
set_option maxHeartbeats 4000000 in
theorem flush_ret (sb:Nat) (s s':Ss) (l:List Gn) (F:List Nat) (w0:World) (h:SAt w0 sb s F) (hn:s.l.length≤1000000) (hq:s.q.t.list.length≤1000000) (hl:l.length≤1000000) (hF:Flushes s l s') :
    Ret Tryz.prog 51 #[.pointer (some ⟨sb,0,none⟩)] w0 fun v w'=>(∃ G,SlV w' 53 13 v l.length (flatG l) G∧∀ k∈G,w0.heap.size≤k)∧∃ F',SAt w' sb s' F'∧(∀ k∈F',k∈F∨w0.heap.size≤k)∧Only F w0 w':=by
  have hs:=St.nil w0
  refine ret_of_xc Tryz.func51 (by kernel_rfl) rfl Tryz.ntmps51 rfl rfl rfl ?_
  repeat' (first|refine vs (k:=?_)|refine qRg ?_|refine Nx.h ?_|fail)
  refine xc_cutB (fun (_:Unit)=>[]) (fun _ _=>False) ?_ ?_
  · refine xc_loopS (fun (x:List Gn × List Gn × Value × Ss × List Nat)=>[(0,.pointer (some ⟨sb,0,none⟩)),(3,x.2.2.1)])
      (fun x w=>x.2.1 ++ x.1=l∧Flushes x.2.2.2.1 x.1 s'∧x.2.2.2.1.l.length≤1000000∧x.2.2.2.1.q.t.list.length≤1000000∧(∃ G,SlV w 53 13 x.2.2.1 x.2.1.length (flatG x.2.1) G∧∀ k∈G,w0.heap.size≤k)∧SAt w sb x.2.2.2.1 x.2.2.2.2∧(∀ k∈x.2.2.2.2,k∈F∨w0.heap.size≤k)∧Only F w0 w)
      (fun x=>x.1.length) (l,[],.slice none 0 0,s,F) (by (repeat (first | exact agree_nil | (apply agree_cons;exact rfl)))) ⟨rfl,hF,hn,hq,⟨[],.inl ⟨rfl,rfl,rfl,rfl⟩,by simp⟩,h,fun k hk => .inl hk,(hs.only0 rfl).weaken (by simp)⟩ fun x env wl hI=>?_
    obtain ⟨r,acc,v3,s1,F1⟩:=x
    simp only at hI
    obtain ⟨hacc,hFl,hn1,hq1,⟨G,hG,hGn⟩,hS1,hF1,ho0⟩:=hI
    clear hs
    have hs:=St.nil wl
    have hsz:=ho0.size
    have hal:acc.length≤1000000:=by rw [← hacc,List.length_append] at hl;omega
    repeat' (first|refine vs (k:=?_)|refine qRg ?_|refine Nx.h ?_|fail)
    (with_reducible apply xs_call);exact rfl;exact rfl;exact next_ret sb s1 F1 _ hS1 hn1
    cases hFl with
    | done hnx =>
      rw [hnx]
      rintro v w' ⟨rfl,ho⟩;replace hs:=hs.call0 ho;repeat' (first|refine vs (k:=?_)|(refine stA hs (k:=?_);intro w hs)|(refine al hs (k:=?_);intro b w hz hs)|refine qRg ?_|refine Nx.h ?_|refine qCt ?_|fail)
      first | refine rt (hq:=?_) | refine rt' (hq:=?_)
      rw [List.append_nil] at hacc
      subst hacc
      exact ⟨⟨G,hG.keep (hs.only0 rfl) (by simp),hGn⟩,F1,hS1.only (hs.only0 rfl),hF1,ho0.step (hs.only0 rfl) (by simp)⟩
    | step hnx hf hc hFl' =>
      rename_i g r' a
      rw [hnx]
      have hid:=next_id hnx
      have hsm:=exit_small hf hc hS1.ord
      rintro v w' ⟨rfl,ho⟩;replace hs:=hs.call0 ho;repeat' (first|refine vs (k:=?_)|(refine stA hs (k:=?_);intro w hs)|(refine al hs (k:=?_);intro b w hz hs)|refine qRg ?_|refine Nx.h ?_|refine qCf ?_|fail)
      have hoN:=hs.only0 rfl
      have hSN:=hS1.only hoN
      have hapart:=hSN.apart hs rfl
      (with_reducible apply xs_call);exact rfl;exact rfl;exact exit_ret sb s1 F1 g.id _ hSN hid hq1 a hf hc
      rintro v wE ⟨rfl,F2,hS2,hF2,hoE⟩
      replace hs:=hs.call hoE hapart (by simp [D0])
      have k4:=hs.get At.head
      have hG1:=hG.keep hoN (by simp)
      have hG2:=hG1.keep hoE (slv_set hG1 hSN rfl)
      have hzN:=hoN.size
      have hzE:=hoE.size
      have hoA:Only F w0 wE:=(ho0.step hoN (by simp)).step hoE hF1
      have hF2':∀ k∈F2,k∈F∨w0.heap.size≤k:=fun k hk=>by
        rcases hF2 k hk with h | h
        · exact hF1 k h
        · exact .inr (by omega)
      clear hs
      have hs:=(St.nil wE).track k4 (by simp)
      refine XS.nil ?_
      refine then_of ?_
      repeat' (first|refine vs (k:=?_)|(refine bs hs (k:=?_);intro b w hz hs)|refine qRg ?_|fail)
      have hb20:=hs.get At.head
      have hoB:=hs.onlyF [] (by simp [k4]) (by simp [D0])
      have hzB:=hoB.size
      have hGB:=hG2.keep hoB (by simp)
      have hSB:=hS2.only hoB
      refine xs_appendW tabOk rfl rfl rfl rfl rfl rfl rfl (by decide) (lit_cells (news:=g.cells) hb20) (by simp [Value.oneCell']) hGB (by omega) (by omega) ?_
      intro v5 w5 ⟨G',hG',hGn'⟩ ho5
      have hS5:=hSB.keepD ho5 (fun k hk hm=>slv_set hGB hSB rfl k hm hk)
      clear hs
      have hs:=St.nil w5
      repeat' (first|refine vs (k:=?_)|refine Nx.h ?_|fail)
      refine loopS_next (r',acc ++ [g],v5,exitS s1 g.id,F2) (by show r'.length < (g :: r').length;simp) (by (repeat (first | exact agree_nil | (apply agree_cons;exact rfl)))) ⟨by show (acc ++ [g]) ++ r'=l;rw [List.append_assoc];exact hacc,hFl',by show (exitS s1 g.id).l.length≤_;omega,by show (exitS s1 g.id).q.t.list.length≤_;omega,⟨G',?_,?_⟩,hS5.only (hs.only0 rfl),hF2',((hoA.step hoB (by simp)).step ho5 (fun k hk => .inr (hGn k hk))).step (hs.only0 rfl) (by simp)⟩
      · simp only [List.length_append,List.length_cons,List.length_nil,flatG_snoc]
        exact hG'.keep (hs.only0 rfl) (by simp)
      · intro k hk
        rcases hGn' k hk with h | h
        · exact hGn k h
        · omega
  · rintro _ _ _ hI
    exact hI.elim
end Go.Proofs.YtkbcfknnieggbaaGreatDoorX

namespace Go.Proofs.YtkbcfknnieggbaaGreatDoorX
open Go Go.RowKit
open IB (IT ITsAt flatT)
attribute [local irreducible] XS XC XA thenE blockE retE loopE loopS cutB cutN doneE SE
def chBase (s:Qs) (a:IT):Int:=(anchA (plain (othT a.1.id s.t.list))).getD a.1.p.t
def chE (s:Qs) (a:IT):Int :=
  bif !a.1.right then 2 else bif !(s.f a.1.id).isSome then 14 else bif !within (chBase s a) (plain (othT a.1.id s.t.list ++ [a])) then 8 else 0
def swapQ (s:Qs) (o a:IT):Qs:={ putQ (cutQ s o) a with c:=s.c }
def chQ (s:Qs) (a:IT):Qs:=bif decide (chE s a=0) then (match s.f a.1.id with | some o=>swapQ s o a | none=>s) else s
theorem vals_getO (f:Int→Option IT) (i:Int):(vals f i).getD (iv .zero)=iv (IB.valO (f i)):=by unfold vals;cases f i <;> rfl
set_option maxHeartbeats 4000000 in
theorem qchange_ret (qb:Nat) (s:Qs) (F:List Nat) (a:IT) (w0:World) (h:QAt w0 qb s F) (hlen:s.t.list.length+1≤1000000) (hn:s.n < 1000000) (hd:∀ o,s.f a.1.id=some o→CutOk o s.t) :
    Ret Tryz.prog 92 #[.pointer (some ⟨qb,0,none⟩),iv a.1] w0 fun v w'=>v = .int .i64 (chE s a)∧∃ F',QAt w' qb (chQ s a) F'∧(∀ k∈F',k∈F∨w0.heap.size≤k)∧Only F w0 w':=by
  have hq:=h
  obtain ⟨tb,mb,Ft,rfl,h1,h2,h3,h4,h5⟩:=h
  have hs:=(St.nil w0).track h1 (by simp)
  have same:∀ w',Only [] w0 w'→∃ F',QAt w' qb s F'∧(∀ k∈F',k∈qb :: mb :: Ft∨w0.heap.size≤k)∧Only (qb :: mb :: Ft) w0 w':=fun w' ho=>⟨_,hq.only ho,fun k hk => .inl hk,ho.weaken (by simp)⟩
  refine ret_of_xc Tryz.func92 (by kernel_rfl) rfl Tryz.ntmps92 rfl rfl rfl ?_;refine xc_seq ?_;refine xc_region ?_ ?_;exact rfl;refine bx hs (k:=?_);intro bq wq hzq hs;repeat' (first|refine vs (k:=?_)|refine qRg ?_|refine Nx.h ?_|refine qCf ?_|fail)
  have hbq:=hs.new (bq,true) (by simp) rfl
  simp only at hbq
  refine dr [] hs (k:=?_);intro hX w hs
  refine tk 0 hX (k:=?_)
  refine tk 1 hX (k:=?_)
  refine tk 2 hX (k:=?_)
  refine tk 3 hX (k:=?_)
  refine tk 4 hX (k:=?_)
  refine tk 5 hX (k:=?_)
  refine pd0 10 5 hs (k:=?_);intro f X w hp;have hs:=hp.st
  apply xa_pend 6 10 (f:=f) (X:=X) hX hp;exact rfl;exact rfl;(apply makes_alloc tabOk;exact rfl);kernel_rfl;kernel_rfl;kernel_rfl;kernel_rfl;(intro X Y;(repeat (first | exact pgg_base | refine pgg_step ?_ (by exact rfl))));(intro w' hs;first|exact se_hold hs.hold|exact se_hold hs.hold.tail|exact se_done rfl);intro f X w hp;have hs:=hp.st
  have ho:=hs.onlyF [] (by simp [h1]) (by simp [D0])
  refine xs_look (e:=49) (z:=iv .zero) (h2.keep ho (by simp)) a.2.2.1 (by kernel_rfl) (by kernel_rfl) (k:=?_)
  rw [vals_getO,vals_isSome]
  generalize hx:IB.valO (s.f a.1.id)=x
  repeat' (first|refine Nx.h ?_|fail)
  refine dn (k:=?_)
  refine tk 7 hX (hc:=by cases f <;> kernel_rfl) (k:=?_)
  refine tk 8 hX (hc:=by cases f <;> kernel_rfl) (k:=?_)
  refine tk 9 hX (hc:=by cases f <;> kernel_rfl) (k:=?_)
  apply xa_pendE 10 (f:=f) (X:=X) hX hp;exact rfl;(apply makes_alloc tabOk;exact rfl);kernel_rfl;kernel_rfl;(intro X Y;(repeat (first | exact pgg_base | refine pgg_step ?_ (by exact rfl))));(intro w' hs;first|exact se_hold hs.hold|exact se_hold hs.hold.tail|exact se_done rfl);intro b w hI hs
  refine dt 11 hX (k:=?_)
  repeat' (first|(refine stA hs (k:=?_);intro w hs)|refine Nx.h ?_|fail)
  refine dn (k:=?_)
  refine tk 12 hX (k:=?_)
  refine en (k:=?_)
  repeat' (first|refine vs (k:=?_)|refine qRg ?_|refine Nx.h ?_|fail)
  have hb5:=hs.new _ List.mem_cons_self rfl
  simp only at hb5
  have ho:=hs.onlyF [] (by simp [h1]) (by simp [D0])
  have lb5:=lt_of_block (hs.get At.head)
  have lbq:=lt_of_block (hs.get (At.tail At.head))
  have lqb:=lt_of_block (hs.get (At.tail (At.tail At.head)))
  (with_reducible apply xs_call);exact rfl;exact rfl;exact qothers_ret qb s _ a.1.id _ (hq.only ho) (by omega)
  rintro v1 w1 ⟨⟨G,hG,hGn⟩,ho1⟩;replace hs:=hs.call0 ho1
  have hz:=ho.size
  have hGn':∀ k∈G,w0.heap.size≤k:=fun k hk=>by have:=hGn k hk;omega
  have hGne:∀ k∈G,k≠b∧k≠bq∧k≠qb:=fun k hk=>by have:=hGn k hk;omega
  have hoA:=hs.onlyF [] (by simp [h1]) (by simp [D0])
  have c1:=hs.get At.head
  have c2:=hs.get (At.tail At.head)
  have c3:=hs.get (At.tail (At.tail At.head))
  have hnd:=hs.nd
  simp only [List.map_cons,List.nodup_cons,List.mem_cons,List.map_nil,List.not_mem_nil,or_false,not_or] at hnd
  have hle:=othT_le a.1.id s.t.list
  have hL:ItsAt w1 v1 (plain (othT a.1.id s.t.list)):=IB.its_of hG
  clear hs
  have hs:=(((St.nil w1).track c3 (by simp)).track c2 (by simpa using hnd.2.1)).track c1 (by simp [hnd.1.1,hnd.1.2])
  have e0:chBase s a=(anchA (plain (othT a.1.id s.t.list))).getD a.1.p.t:=rfl
  have eE:chE s a=bif !a.1.right then 2 else bif !(s.f a.1.id).isSome then 14 else bif !within (chBase s a) (plain (othT a.1.id s.t.list ++ [a])) then 8 else 0:=rfl
  generalize chBase s a=B at *
  generalize hO:othT a.1.id s.t.list=O at *
  repeat' (first|refine vs (k:=?_)|refine qRg ?_|refine Nx.h ?_|fail)
  have ho2:=hs.onlyF [] (by simp [c1,c2,c3]) (by simp [D0])
  (with_reducible apply xs_call);exact rfl;exact rfl;exact anchor_ret (plain O) v1 (fun x hx=>by obtain ⟨y,_,rfl⟩:=List.mem_map.1 hx;exact y.2) (by simp [plain];omega) _ (hL.only ho2)
  rintro v2 w2 ⟨rfl,ho⟩;replace hs:=hs.call0 ho
  refine vs (k:=?_)
  refine vs (k:=?_)
  refine vs (k:=?_)
  refine vs (k:=?_)
  refine vs (k:=?_)
  refine XS.nil ?_
  refine then_of ?_
  refine xc_seq ?_
  refine xc_cutN (fun _:Unit=>[(0,.pointer (some ⟨qb,0,none⟩)),(3,.pointer (some ⟨bq,0,none⟩)),(4,.int .i64 0),(5,.pointer (some ⟨b,0,none⟩)),(6,.bool (s.f a.1.id).isSome),(7,v1),(8,.int .u64 B)]) (fun _ w=>St w1 D0 [(b,itQ x,false),(bq,itQ a.1,false),(qb,queueO s.m tb mb s.c,false)] w) ?_ ?_
  · cases hA:anchA (plain O) with
    | none =>
      rw [hA] at e0
      rw [e0]
      repeat' (first|refine vs (k:=?_)|refine qRg ?_|refine Nx.h ?_|refine qCt ?_|fail)
      exact cutN_normal () (by (repeat (first | exact agree_nil | (apply agree_cons;exact rfl)))) hs
    | some t =>
      rw [hA] at e0
      rw [e0]
      repeat' (first|refine vs (k:=?_)|refine qRg ?_|refine Nx.h ?_|refine qCf ?_|fail)
      exact cutN_normal () (by (repeat (first | exact agree_nil | (apply agree_cons;exact rfl)))) hs
  clear hs ho
  rintro _ env w hs
  repeat' (first|refine vs (k:=?_)|refine qRg ?_|refine Nx.h ?_|fail)
  (with_reducible apply xs_call);exact rfl;exact rfl;exact iright_ret a.1 _
  have chq:∀ n,chE s a=n→n≠0→chQ s a=s:=fun n e hn=>by unfold chQ;rw [e,decide_eq_false hn];rfl
  rintro v w' ⟨rfl,ho⟩;replace hs:=hs.call0 ho;repeat' (first|refine vs (k:=?_)|(refine bs hs (k:=?_);intro b w hz hs)|refine qRg ?_|refine Nx.h ?_|(refine xc_cond rfl (fun hc=>?_) (fun hc=>?_))|fail)
  · first | refine rt (hq:=?_) | refine rt' (hq:=?_)
    have ho:=hs.onlyF [] (by simp [c1,c2,c3]) (by simp [D0])
    have e:chE s a=2:=by rw [eE,show (!a.1.right)=true by simpa using hc];rfl
    refine ⟨by rw [e];rfl,?_⟩
    rw [chq 2 e (by decide)]
    exact same _ (hoA.trans ho)
  · first | refine rt (hq:=?_) | refine rt' (hq:=?_)
    have ho:=hs.onlyF [] (by simp [c1,c2,c3]) (by simp [D0])
    have e:chE s a=14:=by rw [eE,show (!a.1.right)=false by assumption,hc];rfl
    refine ⟨by rw [e];rfl,?_⟩
    rw [chq 14 e (by decide)]
    exact same _ (hoA.trans ho)
  · have r1:(!a.1.right)=false:=by assumption
    have r2:(s.f a.1.id).isSome=true:=by simpa using hc
    obtain ⟨o,hf⟩:=Option.isSome_iff_exists.1 r2
    rw [hf] at hx
    obtain rfl:o.1=x:=hx
    rw [r1,r2] at eE
    have hb4:=hs.get At.head
    have ho4:=hs.onlyF [] (by simp [c1,c2,c3]) (by simp [D0])
    refine xs_appendW tabOk rfl rfl rfl rfl rfl rfl rfl (by decide) (lit_cells (news:=a.1.cells) hb4) (by simp [Value.oneCell']) (hG.keep ho4 (by simp)) (by omega) (by omega) ?_
    intro v2 w2 ⟨G',hG2,hG2'⟩ ho3
    have hoB:Only [] w0 w2:=(hoA.trans ho4).news hGn' ho3
    have d1:=ho3.block (hs.get (At.tail At.head)) (fun hm=>(hGne _ hm).1 rfl)
    have d2:=ho3.block (hs.get (At.tail (At.tail At.head))) (fun hm=>(hGne _ hm).2.1 rfl)
    have d3:=ho3.block (hs.get (At.tail (At.tail (At.tail At.head)))) (fun hm=>(hGne _ hm).2.2 rfl)
    have hL2:ItsAt w2 v2 (plain (O ++ [a])):=IB.its_of (G:=G') (by
      rw [IB.flatT_app,List.length_append]
      exact hG2)
    clear hs
    have hs:=(((St.nil w2).track d3 (by simp)).track d2 (by simpa using hnd.2.1)).track d1 (by simp [hnd.1.1,hnd.1.2])
    skip
    have ho5:=hs.onlyF [] (by simp [d1,d2,d3]) (by simp [D0])
    (with_reducible apply xs_call);exact rfl;exact rfl;exact within_ret B (plain (O ++ [a])) v2 (by simp [plain];omega) _ (hL2.only ho5)
    generalize hwi:within B (plain (O ++ [a]))=wi
    rw [hwi] at eE
    cases wi
    · rintro v w' ⟨rfl,ho⟩;replace hs:=hs.call0 ho;repeat' (first|refine vs (k:=?_)|refine qRg ?_|refine Nx.h ?_|refine qCt ?_|fail)
      first | refine rt (hq:=?_) | refine rt' (hq:=?_)
      have ho:=hs.onlyF [] (by simp [d1,d2,d3]) (by simp [D0])
      refine ⟨by rw [eE];rfl,?_⟩
      rw [chq 8 eE (by decide)]
      exact same _ (hoB.trans ho)
    · have hQ:chQ s a=swapQ s o a:=by unfold chQ;rw [eE,hf];rfl
      rintro v w' ⟨rfl,ho⟩;replace hs:=hs.call0 ho;repeat' (first|refine vs (k:=?_)|refine qRg ?_|refine Nx.h ?_|refine qCf ?_|fail)
      have ho:=hs.onlyF [] (by simp [d1,d2,d3]) (by simp [D0])
      have hoC:=hoB.trans ho
      have hqC:=hq.only hoC
      have hzC:=hoC.size
      (with_reducible apply xs_call);exact rfl;exact rfl;exact qcut_ret qb s _ o _ hqC (by omega) (hd o hf)
      rintro v3 w3 ⟨F1,hA1,hF1,ho6⟩
      have q2:=ho6.block (hs.get (At.tail At.head)) (hqC.not (hs.get (At.tail At.head)) (by decide) (by decide) (by decide))
      have hlenc:(cutQ s o).t.list.length≤s.t.list.length:=cutT_len (hd o hf)
      have hnc:(cutQ s o).n≤s.n:=by show (if (s.f o.1.id).isSome then s.n - 1 else s.n)≤s.n;split <;> omega
      have hoD:Only (qb :: mb :: Ft) w0 w3:=(hoC.weaken (by simp)).step ho6 (fun k hk => .inl hk)
      have hzD:=hoD.size
      clear hs
      have hs:=(St.nil w3).track q2 (by simp)
      repeat' (first|refine vs (k:=?_)|refine qRg ?_|refine Nx.h ?_|fail)
      have ho7:=hs.onlyF [] (by simp [q2]) (by simp [D0])
      have hA2:=hA1.only ho7
      have hz7:=ho7.size
      (with_reducible apply xs_call);exact rfl;exact rfl;exact qput_ret qb (cutQ s o) F1 a _ hA2 (by omega) (by omega)
      rintro v4 w4 ⟨F2,hA3,hF2,ho8⟩
      obtain ⟨tb',mb',Ft',rfl,g1,g2,g3,g4,g5⟩:=hA3
      have hoE:Only (qb :: mb :: Ft) w0 w4:=(hoD.step ho7 (by simp)).step ho8 (fun k hk=>by
        rcases hF1 k hk with h | h
        · exact .inl h
        · exact .inr (by omega))
      have hQP:QP w4 qb tb' mb' Ft' (putQ (cutQ s o) a):=⟨g1,g2,g3⟩
      clear hs
      have hs:=(St.nil w4).track g1 (by simp)
      repeat' (first|refine vs (k:=?_)|(refine st hs (k:=?_);intro w hs)|refine qRg ?_|refine Nx.h ?_|fail)
      first | refine rt (hq:=?_) | refine rt' (hq:=?_)
      have ho9:Only [qb] w4 _:=hs.onlyF [qb] (by simp) (by simp [D0])
      have hP:=hQP.own ho9 (hs.get At.head)
      refine ⟨by rw [eE];rfl,?_⟩
      rw [hQ]
      refine ⟨qb :: mb' :: Ft',⟨tb',mb',Ft',rfl,hP.q,hP.M,hP.T,g4,h5⟩,fun k hk=>?_,hoE.step ho9 (fun k hk => .inl (by obtain rfl:=List.mem_singleton.1 hk;simp))⟩
      rcases hF2 k hk with h | h
      · rcases hF1 k h with h | h
        · exact .inl h
        · exact .inr (by omega)
      · exact .inr (by omega)
end Go.Proofs.YtkbcfknnieggbaaGreatDoorX

namespace Go.Proofs.YtkbcfknnieggbaaGreatDoorX
open Go Go.RowKit
open IB (IT ITsAt flatT)
attribute [local irreducible] XS XC XA thenE blockE retE loopE loopS cutB cutN doneE SE
theorem put1_ret (qb:Nat) (s:Qs) (F:List Nat) (r:RT) (w0:World) (h:QAt w0 qb s F) (hlen:s.t.list.length+1≤1000000) (hn:s.n < 1000000) (hd:∀ o,s.f (itR r).1.id=some o→CutOk o s.t) :
    Ret Tryz.prog 91 #[.pointer (some ⟨qb,0,none⟩),rv r.1] w0 fun v w'=>v = .int .i64 (chE s (itR r))∧∃ F',QAt w' qb (chQ s (itR r)) F'∧(∀ k∈F',k∈F∨w0.heap.size≤k)∧Only F w0 w':=by
  have hs:=St.nil w0
  refine ret_of_xc Tryz.func91 (by kernel_rfl) rfl Tryz.ntmps91 rfl rfl rfl ?_
  repeat' (first|refine vs (k:=?_)|(refine bx hs (k:=?_);intro b w hz hs)|refine qRg ?_|refine Nx.h ?_|fail)
  have ho:=hs.only0 rfl
  (with_reducible apply xs_call);exact rfl;exact rfl;exact qchange_ret qb s F (itR r) _ (h.only ho) hlen hn hd
  rintro v w1 ⟨rfl,F',hA,hF',ho1⟩
  have hz:=ho.size
  clear hs
  have hs:=St.nil w1
  repeat' (first|refine vs (k:=?_)|refine Nx.h ?_|fail)
  first | refine rt (hq:=?_) | refine rt' (hq:=?_)
  exact ⟨rfl,F',hA.only (hs.only0 rfl),fun k hk=>by rcases hF' k hk with h | h;exact .inl h;exact .inr (by omega),((ho.weaken (by simp)).step ho1 (fun k hk => .inl hk)).step (hs.only0 rfl) (by simp)⟩
def putE' (s:Ss) (r:RT):Int:=layE r.1 (chE s.q (itR r))
def putS (s:Ss) (r:RT):Ss:=layS s r (chE s.q (itR r)) (chQ s.q (itR r))
theorem sput_ret (sb:Nat) (s:Ss) (F:List Nat) (r:RT) (w0:World) (h:SAt w0 sb s F) (hl:s.l.length < 1000000) (hlen:s.q.t.list.length+1≤1000000) (hn:s.q.n < 1000000) (hd:∀ o,s.q.f (itR r).1.id=some o→CutOk o s.q.t) :
    Ret Tryz.prog 46 #[.pointer (some ⟨sb,0,none⟩),rv r.1] w0 fun v w'=>v = .int .i64 (putE' s r)∧∃ F',SAt w' sb (putS s r) F'∧(∀ k∈F',k∈F∨w0.heap.size≤k)∧Only F w0 w':=by
  have hs:=St.nil w0
  refine ret_of_xc Tryz.func46 (by kernel_rfl) rfl Tryz.ntmps46 rfl rfl rfl ?_
  repeat' (first|refine vs (k:=?_)|(refine bx hs (k:=?_);intro b w hz hs)|refine qRg ?_|refine Nx.h ?_|fail)
  have ho:=hs.only0 rfl
  (with_reducible apply xs_call);exact rfl;exact rfl;exact slay_ret 91 sb s F r (chE s.q (itR r)) (chQ s.q (itR r)) _ (h.only ho) hl (fun qb Fq w hq _=>put1_ret qb s.q Fq r w hq hlen hn hd)
  rintro v w1 ⟨rfl,F',hA,hF',ho1⟩
  have hz:=ho.size
  clear hs
  have hs:=St.nil w1
  repeat' (first|refine vs (k:=?_)|refine Nx.h ?_|fail)
  first | refine rt (hq:=?_) | refine rt' (hq:=?_)
  exact ⟨rfl,F',hA.only (hs.only0 rfl),fun k hk=>by rcases hF' k hk with h | h;exact .inl h;exact .inr (by omega),((ho.weaken (by simp)).step ho1 (fun k hk => .inl hk)).step (hs.only0 rfl) (by simp)⟩
end Go.Proofs.YtkbcfknnieggbaaGreatDoorX

namespace Go.Proofs.YtkbcfknnieggbaaGreatDoorX
open IB (IT)
theorem ofL_is {lo:Int}:∀ {l2 l1:List It} {m:Mn},AllW m.b lo (l1 ++ l2)→IsM m l1→∃ m',ofL m (places l2)=some m'∧m'.b=m.b∧IsM m' (l1 ++ l2)
  | [],l1,m,h,k=>⟨m,rfl,rfl,by rwa [List.append_nil]⟩
  | a :: l2,l1,m,h,k=>by
    have hp:(l1 ++ a :: l2).Perm ((a :: l1) ++ l2):=List.perm_middle
    have h2:=h.perm hp
    have h3:AllW m.b lo (a :: l1):=⟨h2.1,by have:=h2.2.1;simp only [List.length_append,List.length_cons] at this ⊢;omega,fun x hx=>h2.2.2 x (List.mem_append_left _ hx)⟩
    obtain ⟨m1,e1,e2,e3⟩:=add_is h3 k
    obtain ⟨m2,e4,e5,e6⟩:=ofL_is (l2:=l2) (l1:=a :: l1) (m:=m1) (by rw [e2];exact h2) e3
    refine ⟨m2,?_,e5.trans e2,e6.perm hp.symm⟩
    show (addM m a.p).bind (fun m=>ofL m (places l2))=some m2
    rw [e1];exact e4
theorem AllW.at {b lo:Int} {x:It} {l:List It} (h:AllW b lo (x :: l)):AllW x.p.t (lo - sn x.p.t b) (x :: l):=(h.move h.head.low (h.head.dead h.1).2.2).1
theorem mean_of {b lo:Int} {l:List It} (h:AllW b lo l) (hl:l≠[]):Cen (meanL l) l∧anchA l=some (meanL l).b:=by
  obtain ⟨x,r,rfl⟩:=List.exists_cons_of_ne_nil hl
  have hw:=h.at
  obtain ⟨m,e1,e2,e3⟩:=ofL_is (l1:=[]) (l2:=x :: r) (m:=⟨x.p.t,0,0,0⟩) hw ⟨rfl,rfl,rfl⟩
  have e2':m.b=x.p.t:=e2
  have hw':AllW m.b (lo - sn x.p.t b) (x :: r):=by rw [e2'];exact hw
  obtain ⟨m',e4,e5⟩:=centre_is hw' e3 hl
  have hf:=floor_is hw' e3 hl
  have e6:=e5.eq hl
  rw [← e6]
  refine ⟨e5,?_⟩
  show (ofM x.p.t (places (x :: r))).bind flM=_
  unfold ofM
  rw [e1,Option.bind_some,hf]
  rw [hf] at e4
  simp only [Option.getD_some,rebM] at e4
  split at e4
  · cases e4;rfl
  · cases e4
theorem meanL_perm {b lo:Int} {l l':List It} (h:AllW b lo l) (p:l.Perm l'):meanL l=meanL l':=by
  by_cases e:l=[]
  · subst e;rw [p.nil_eq]
  · exact ((mean_of h e).1.perm p).eq (fun k=>e (by subst k;exact p.symm.nil_eq.symm))
theorem QI.winp {s:Qs} (h:QI s) {a:IT} (hr:a.1.right=true) (hn:s.t.list.length < 32) {L:List It} (hL:L.Perm (a.1 :: plain s.t.list)) (hw:within (preM s a).b L=true):∃ lo,AllW (preM s a).b lo (a.1 :: plain s.t.list):=by
  obtain ⟨lo,k⟩:=h.win
  rw [within_mem (l':=a.1 :: plain s.t.list) (fun x=>hL.mem_iff)] at hw
  refine win_of (fun x hx=>?_) hw ?_ ?_ (by simp only [plain,List.length_cons,List.length_map];omega)
  · rcases List.mem_cons.1 hx with rfl | hx
    · exact ⟨a.2,hr⟩
    · exact ⟨(k.2.2 x hx).isin,(k.2.2 x hx).right⟩
  all_goals by_cases e:s.t.list=[]
  · rw [preM_nil e];exact ⟨a.1,by simp,by show sn a.1.p.t a.1.p.t≤0;rw [sn_self];omega⟩
  · rw [preM_ne e];obtain ⟨⟨x,k1,k2⟩,_⟩:=low_mid (h.cen e) (plain_ne e);exact ⟨x,by simp [k1],k2⟩
  · rw [preM_nil e];exact ⟨a.1,by simp,by show 0≤sn a.1.p.t a.1.p.t;rw [sn_self];omega⟩
  · rw [preM_ne e];obtain ⟨_,⟨x,k1,k2⟩⟩:=low_mid (h.cen e) (plain_ne e);exact ⟨x,by simp [k1],k2⟩
theorem QI.clock {s:Qs} (h:QI s) (c:Int):QI { s with c:=c }:=⟨h.good,h.srt,h.f,h.n,h.len,h.cen,h.nil⟩
theorem put_perm2 {r:RT}:∀ {l:List RT},OrdR l→(putR r l).Perm (r :: delR (idR r) l)
  | [],_ => .refl _
  | a :: l,h=>by
    have hd:=h.head
    have hlt:∀ {b:RT},idR r≤idR a→b∈l→decide (idR b≠idR r)=true:=fun h1 hb=>by have:=hd _ hb;simp;omega
    have ih:=put_perm2 (r:=r) h.tail
    unfold putR delR
    rw [List.filter_cons]
    split
    · rename_i h1
      rw [if_pos (by simp;omega),List.filter_eq_self.2 (fun b hb=>hlt (by omega) hb)]
    · split
      · rename_i h1 h2
        rw [if_neg (by simp;omega),List.filter_eq_self.2 (fun b hb=>hlt (by omega) hb)]
      · rename_i h1 h2
        rw [if_pos (by simp;omega)]
        exact (ih.cons a).trans (.swap _ _ _)
def othA (A:As) (id:Int):List It:=its (delR id A.l)
def chBaseA (A:As) (a:It):Int:=if othA A a.id=[] then a.p.t else (meanL (othA A a.id)).b
def changeA (A:As) (a:It):Int:=bif !a.right then 2 else bif !(findR A.l a.id).isSome then 14 else bif !within (chBaseA A a) (othA A a.id ++ [a]) then 8 else 0
def putE (A:As) (r:RT):Int:=layE r.1 (changeA A r.1.i)
def putA (A:As) (r:RT):As:=if putE A r=0 then ⟨putR r A.l,A.c⟩ else A
theorem oth_perm {s:Ss} {A:As} (h:Rep s A) (id:Int):(othT id s.q.t.list).Perm ((delR id A.l).map itR):=by
  unfold othT delR
  have:((A.l.filter fun a=>decide (idR a≠id)).map itR)=(A.l.map itR).filter fun a=>decide (a.1.id≠id):=by rw [List.filter_map];rfl
  rw [this]
  exact h.p.filter _
theorem Rep.oth {s:Ss} {A:As} (h:Rep s A) (id:Int):(plain (othT id s.q.t.list)).Perm (othA A id):=by
  unfold othA
  rw [← its_itR];exact plain_perm (oth_perm h id)
theorem Rep.chBase {s:Ss} {A:As} (h:Rep s A) (a:IT):Go.Proofs.YtkbcfknnieggbaaGreatDoorX.chBase s.q a=chBaseA A a.1:=by
  unfold Go.Proofs.YtkbcfknnieggbaaGreatDoorX.chBase chBaseA
  have hp:=h.oth a.1.id
  by_cases e:othA A a.1.id=[]
  · rw [if_pos e]
    rw [e] at hp
    rw [hp.eq_nil];rfl
  · rw [if_neg e]
    obtain ⟨lo,k⟩:=h.q.win
    have k2:AllW s.q.m.b lo (plain (othT a.1.id s.q.t.list)):=⟨k.1,by have:=k.2.1;have:=othT_le a.1.id s.q.t.list;simp only [plain,List.length_map] at *;omega,fun x hx=>by
      obtain ⟨y,hy,rfl⟩:=List.mem_map.1 hx
      exact plain_win k y (List.mem_filter.1 hy).1⟩
    have ne:plain (othT a.1.id s.q.t.list)≠[]:=fun k=>e (by rw [k] at hp;exact hp.nil_eq.symm)
    rw [(mean_of k2 ne).2,Option.getD_some,meanL_perm k2 hp]
theorem Rep.put {s:Ss} {A:As} (h:Rep s A) (r:RT):putE' s r=putE A r∧Rep (putS s r) (putA A r)∧∀ o,s.q.f (itR r).1.id=some o→CutOk o s.q.t:=by
  have hcut:∀ o,s.q.f (itR r).1.id=some o→CutOk o s.q.t:=fun o ho=>(h.q.cut ((h.q.f _ _).1 ho).1).2.2.2.2
  have hch:chE s.q (itR r)=changeA A r.1.i:=by
    unfold chE changeA
    rw [h.fs,h.chBase,within_mem (l:=plain (othT (itR r).1.id s.q.t.list ++ [itR r])) (l':=othA A r.1.i.id ++ [r.1.i]) (fun x=>by
      rw [show plain (othT (itR r).1.id s.q.t.list ++ [itR r])=plain (othT (itR r).1.id s.q.t.list) ++ [(itR r).1] from List.map_append ..,List.mem_append,List.mem_append,(h.oth _).mem_iff];rfl)]
    rfl
  have he:putE' s r=putE A r:=by unfold putE' putE;rw [hch]
  refine ⟨he,?_,hcut⟩
  unfold putA
  by_cases e0:putE A r=0
  · rw [if_pos e0]
    have hr:r.1.right=true:=by
      unfold putE layE at e0
      cases k:r.1.right
      · rw [k] at e0;cases e0
      · rfl
    have hj:changeA A r.1.i=0:=by unfold putE layE at e0;rw [hr] at e0;exact e0
    have hjq:chE s.q (itR r)=0:=by rw [hch];exact hj
    have hj':=hjq
    unfold chE at hj'
    cases k1:(itR r).1.right with
    | false=>rw [k1] at hj';cases hj'
    | true =>
    cases k2:s.q.f (itR r).1.id with
    | none=>rw [k1,k2] at hj';cases hj'
    | some o =>
    cases k4:within (Go.Proofs.YtkbcfknnieggbaaGreatDoorX.chBase s.q (itR r)) (plain (othT (itR r).1.id s.q.t.list ++ [itR r])) with
    | false=>rw [k1,k2,k4] at hj';cases hj'
    | true =>
      obtain ⟨ho1,ho2⟩:=(h.q.f _ _).1 k2
      obtain ⟨c1,c2,c3,c4,c5⟩:=h.q.cut ho1
      have hot:othT (itR r).1.id s.q.t.list=RB.sans o s.q.t.list:=by
        unfold othT RB.sans
        refine List.filter_congr fun x hx=>?_
        by_cases e:x=o
        · subst e;simp [ho2]
        · have:x.1.id≠(itR r).1.id:=fun e'=>e (h.q.inj x hx o ho1 (by omega))
          simp [this,e]
      have hb:(preM (cutQ s.q o) (itR r)).b=Go.Proofs.YtkbcfknnieggbaaGreatDoorX.chBase s.q (itR r):=by
        unfold Go.Proofs.YtkbcfknnieggbaaGreatDoorX.chBase
        rw [hot,← c2]
        by_cases e:(cutQ s.q o).t.list=[]
        · rw [preM_nil e,e];rfl
        · obtain ⟨lo,k⟩:=c1.win
          have hm:=mean_of k (plain_ne e)
          rw [preM_ne e,hm.2,← (c1.cen e).eq (plain_ne e)];rfl
      have hfn:(cutQ s.q o).f (itR r).1.id=none:=by
        cases k:(cutQ s.q o).f (itR r).1.id with
        | none=>rfl
        | some y =>
          obtain ⟨y1,y2⟩:=(c1.f _ _).1 k
          rw [c2,← hot] at y1
          have:=(List.mem_filter.1 y1).2
          simp only [decide_eq_true_eq] at this
          exact absurd y2 this
      have hlen:=c3.length_eq
      have hle:=h.q.len
      simp only [List.length_cons] at hlen
      obtain ⟨lo,hw⟩:=c1.winp (a:=itR r) k1 (by rw [c2];omega) (L:=plain (othT (itR r).1.id s.q.t.list ++ [itR r])) (by
        rw [hot,c2,show plain (RB.sans o s.q.t.list ++ [itR r])=plain (RB.sans o s.q.t.list) ++ [(itR r).1] from List.map_append ..]
        exact List.perm_append_comm) (by rw [hb];exact k4)
      obtain ⟨p1,p2,p3⟩:=c1.put (a:=itR r) hfn hw
      have hE:putS s r=⟨swapQ s.q o (itR r),putR r s.l⟩:=by
        unfold putS layS chQ;rw [hr,hjq,k2];rfl
      rw [hE]
      refine ⟨p1.clock _,by rw [h.l],?_,h.c,fun x hx=>?_,ord_put h.o⟩
      · show (putQ (cutQ s.q o) (itR r)).t.list.Perm ((putR r A.l).map itR)
        refine p2.trans ?_
        rw [c2,← hot]
        exact ((oth_perm h _).cons _).trans ((put_perm2 h.o).map itR).symm
      · rcases mem_put hx with rfl | hx
        · exact hr
        · exact h.r x hx
  · rw [if_neg e0]
    have:putS s r=s:=by
      unfold putS layS
      cases k:r.1.right
      · rfl
      · have:chE s.q (itR r)≠0:=fun e=>e0 (by rw [← he];unfold putE' layE;rw [k];exact e)
        unfold chQ
        rw [decide_eq_false this];rfl
    rw [this];exact h
def rouA (A:As) (id:Int) (b:Bool):As:=match findR A.l id with | some a=>⟨putR (wakeR a b) A.l,A.c⟩ | none=>A
theorem del_perm {l:List RT} {a:RT} {i:Int} (ho:OrdR l) (hf:findR l i=some a):l.Perm (a :: delR i l):=by
  obtain ⟨h1,h2⟩:=findR_some hf
  have:l.Nodup:=(List.Pairwise.imp (fun h e=>by subst e;omega) (List.pairwise_map.1 ho))
  clear hf
  induction l with
  | nil=>cases h1
  | cons b l ih =>
    have hd:=ho.head
    unfold delR
    rw [List.filter_cons]
    rcases List.mem_cons.1 h1 with rfl | h1
    · rw [if_neg (by simp [h2]),List.filter_eq_self.2 (fun x hx=>by have:=hd x hx;simp;omega)]
    · have:=hd a h1
      rw [if_pos (by simp;omega)]
      exact ((ih ho.tail h1 (List.nodup_cons.1 ‹(b :: l).Nodup›).2).cons b).trans (.swap _ _ _)
theorem Rep.rouse {s:Ss} {A:As} (h:Rep s A) (id:Int) (b:Bool):Rep (rouseS s id b) (rouA A id b):=by
  unfold rouseS rouA
  rw [h.l]
  cases e:findR A.l id with
  | none=>exact h
  | some a =>
    obtain ⟨h1,h2⟩:=findR_some e
    refine ⟨h.q,rfl,?_,h.c,fun x hx=>?_,ord_put h.o⟩
    · refine h.p.trans (((del_perm h.o e).map itR).trans ?_)
      have hi:idR (wakeR a b)=id:=h2
      have:=(put_perm2 (r:=wakeR a b) h.o).map itR
      rw [hi] at this
      exact this.symm
    · rcases mem_put hx with rfl | hx
      · exact h.r a h1
      · exact h.r x hx
end Go.Proofs.YtkbcfknnieggbaaGreatDoorX

namespace Go.Proofs.YtkbcfknnieggbaaGreatDoorX
open Go Go.RowKit
open IB (IT ITsAt flatT)
attribute [local irreducible] XS XC XA thenE blockE retE loopE loopS cutB cutN doneE SE
def soonId (q:Qs):Int:=(IB.valO (soonQ q)).id
set_option maxHeartbeats 4000000 in
theorem settle_ret (sb:Nat) (s s':Ss) (l:List Gn) (F:List Nat) (w0:World) (h:SAt w0 sb s F) (hn:s.l.length≤1000000) (hq:s.q.t.list.length≤1000000) (hl:l.length≤1000000) (hF:Flushes s l s') :
    Ret Tryz.prog 14 #[.pointer (some ⟨sb,0,none⟩)] w0 fun v w'=>∃ sl,v = .tuple #[sl,.int .i64 (soonId s'.q)]∧(∃ G,SlV w' 53 13 sl l.length (flatG l) G∧∀ k∈G,w0.heap.size≤k)∧∃ F',SAt w' sb s' F'∧(∀ k∈F',k∈F∨w0.heap.size≤k)∧Only F w0 w':=by
  have hs:=St.nil w0
  refine ret_of_xc Tryz.func14 (by kernel_rfl) rfl Tryz.ntmps14 rfl rfl rfl ?_
  repeat' (first|refine vs (k:=?_)|refine qRg ?_|refine Nx.h ?_|refine qCf ?_|fail)
  have hoa:=hs.only0 rfl
  have hz:=hoa.size
  (with_reducible apply xs_call);exact rfl;exact rfl;exact flush_ret sb s s' l F _ (h.only hoa) hn hq hl hF
  rintro v1 w1 ⟨⟨G,hG,hGn⟩,F1,hS1,hF1,ho1⟩
  have hS1':=hS1
  obtain ⟨qb,mb,Fq,rfl,h1,h2,h3,h4,h5⟩:=hS1
  clear hs
  have hs:=(St.nil w1).track h1 (by simp)
  repeat' (first|refine vs (k:=?_)|refine qRg ?_|refine Nx.h ?_|fail)
  have ho2:=hs.onlyF [] (by simp [h1]) (by simp [D0])
  (with_reducible apply xs_call);exact rfl;exact rfl;exact qsoonest_ret qb s'.q Fq _ (h3.only ho2)
  rintro v w' ⟨rfl,ho⟩;replace hs:=hs.call0 ho;repeat' (first|refine vs (k:=?_)|(refine stA hs (k:=?_);intro w hs)|(refine al hs (k:=?_);intro b w hz hs)|refine Nx.h ?_|fail)
  refine dr [] hs (k:=?_);intro hX w hs
  refine tk 0 hX (k:=?_)
  refine tk 1 hX (k:=?_)
  refine tk 2 hX (k:=?_)
  refine tk 3 hX (k:=?_)
  refine tk 4 hX (k:=?_)
  refine en (k:=?_)
  repeat' (first|refine Nx.h ?_|fail)
  first | refine rt (hq:=?_) | refine rt' (hq:=?_)
  have ho3:=hs.onlyF [] (by simp [h1]) (by simp [D0])
  exact ⟨v1,rfl,⟨G,hG.keep ho3 (by simp),fun k hk=>by have:=hGn k hk;omega⟩,_,hS1'.only ho3,fun k hk=>by
    rcases hF1 k hk with h | h
    · exact .inl h
    · exact .inr (by omega),((hoa.weaken (by simp)).step ho1 (fun k hk => .inl hk)).step ho3 (by simp)⟩
end Go.Proofs.YtkbcfknnieggbaaGreatDoorX

namespace Go.Proofs.YtkbcfknnieggbaaGreatDoorX
open IB (IT)
theorem over_ok {m:Mn} {l:List It} (h:Cen m l) {x:It} (hx:x∈l):ovM m x.p=some (ovL m x.p)∧InW (ovL m x.p):=by
  obtain ⟨lo,k⟩:=h.all
  have hw:=k.2.2 x hx
  have hr:=k.right h.is
  obtain ⟨r1,_,_,_,_,_,⟨w1,w2,w3,w4⟩,_⟩:=iright_all hw.isin hw.right
  have hn:m.n≠0:=by rw [h.is.n];have:=List.length_pos_of_mem hx;omega
  have h8:=had_rng hw.isin.1 hr r1
  have hm:=mright_iff.1 hr
  have a0:=h.a0
  have a1:=h.a1
  have h9:=mul_rng (w:=m.a) (s:=x.p.w) (W:=33554432) (S:=1048576) (by omega) (by omega) (by omega) (by omega)
  have h10:=mul_rng (w:=m.w) (s:=dist x.p m.b) (W:=33554432) (S:=9671406556917033397649408+1048576) (by omega) (by omega) h8.2.1 h8.2.2
  have e:=Int.mul_comm (dist x.p m.b) m.w
  have i1:InW (m.a*x.p.w):=by unfold InW;omega
  have i2:InW (ovL m x.p):=by unfold ovL InW;rw [e];omega
  unfold ovM
  exact ⟨if_pos ⟨hr,hn,r1,i1,i2⟩,i2⟩
def mA (A:As):Mn:=meanL (its A.l)
def ovA (A:As) (a:RT):Int:=ovL (mA A) a.1.i.p
def lagR (A:As) (a:RT):Int:=ovA A a / (mA A).w
def owedA (A:As) (id:Int):Int:=match findR A.l id with | some a=>cmpI (ovA A a) 0 | none=>0
def lagA (A:As) (id:Int):Int:=match findR A.l id with | some a=>lagR A a | none=>0
theorem Rep.over {s:Ss} {A:As} (h:Rep s A) {a:RT} (ha:a∈A.l):ovM s.q.m a.1.i.p=some (ovA A a)∧InW (ovA A a)∧s.q.m=mA A:=by
  have hne:A.l≠[]:=List.ne_nil_of_mem ha
  have e:=h.mean hne
  have:=over_ok (h.cen hne) (x:=a.1.i) (List.mem_map_of_mem ha)
  rw [e] at this
  exact ⟨by rw [e];exact this.1,this.2,e⟩
theorem Rep.owed {s:Ss} {A:As} (h:Rep s A) (id:Int):owedQ s.q id=owedA A id:=by
  unfold owedQ owedA
  rw [h.f]
  cases e:findR A.l id with
  | none=>rfl
  | some a =>
    have:=h.over (findR_some e).1
    show cmpI ((ovM s.q.m a.1.i.p).getD 0) 0=_
    rw [this.1];rfl
theorem Rep.lag {s:Ss} {A:As} (h:Rep s A) (id:Int):lagQ s.q id=lagA A id:=by
  unfold lagQ lagA
  rw [h.f]
  cases e:findR A.l id with
  | none=>rfl
  | some a =>
    have:=h.over (findR_some e).1
    show ((rdM s.q.m a.1.i.p).getD 0)=_
    unfold rdM lagR
    rw [this.1,this.2.2];rfl
def goesA (A:As) (a:RT):Bool:=a.1.asleep && decide (0≤ovA A a)
def gnA (A:As) (a:RT):Gn:=⟨idR a,lagR A a,a.1⟩
def flushN:Nat→As→List Gn × As
  | 0,A=>([],A)
  | n+1,A=>match A.l.find? (goesA A) with
    | none=>([],A)
    | some a=>(gnA A a :: (flushN n (extA A (idR a))).1,(flushN n (extA A (idR a))).2)
def flushA (A:As):List Gn × As:=flushN A.l.length A
theorem cmp_nonneg {x:Int}:cmpI x 0≥0↔0≤x:=by unfold cmpI;split <;> (try split) <;> omega
theorem find_congr {α:Type} {p q:α→Bool}:∀ {l:List α},(∀ x∈l,p x=q x)→l.find? p=l.find? q
  | [],_=>rfl
  | a :: l,h=>by
    rw [List.find?_cons,List.find?_cons,h a List.mem_cons_self,find_congr fun x hx=>h x (List.mem_cons_of_mem _ hx)]
theorem Rep.next {s:Ss} {A:As} (h:Rep s A):nextS s=(A.l.find? (goesA A)).map (gnA A):=by
  unfold nextS
  rw [h.l,find_congr (q:=goesA A) (fun a ha=>by
    unfold goes goesA
    rw [h.owed]
    unfold owedA
    rw [findR_at h.o ha]
    simp only [cmp_nonneg])]
  cases e:A.l.find? (goesA A) with
  | none=>rfl
  | some a =>
    have ha:=List.mem_of_find?_eq_some e
    show some (gnOf s.q a)=some (gnA A a)
    unfold gnOf gnA
    rw [h.lag]
    unfold lagA
    rw [findR_at h.o ha]
theorem Rep.flushN:∀ {n:Nat} {s:Ss} {A:As},Rep s A→A.l.length≤n→∃ s',Flushes s (flushN n A).1 s'∧Rep s' (flushN n A).2
  | 0,s,A,h,hn=>⟨s,.done (by rw [h.next,List.eq_nil_of_length_eq_zero (Nat.le_zero.1 hn)];rfl),h⟩
  | n+1,s,A,h,hn=>by
    unfold Go.Proofs.YtkbcfknnieggbaaGreatDoorX.flushN
    cases e:A.l.find? (goesA A) with
    | none=>exact ⟨s,.done (by rw [h.next,e];rfl),h⟩
    | some a =>
      have ha:=List.mem_of_find?_eq_some e
      have hf:=findR_at h.o ha
      obtain ⟨e1,e2,e3⟩:=h.exit hf
      have hl:(extA A (idR a)).l.length≤n:=by
        unfold extA
        simp only [hf,Option.isSome_some,if_true]
        have:=(del_perm h.o hf).length_eq
        simp only [List.length_cons] at this ⊢
        omega
      obtain ⟨s',k1,k2⟩:=e3.flushN hl
      exact ⟨s',.step (by rw [h.next,e];rfl) e1 e2 k1,k2⟩
theorem Rep.flush {s:Ss} {A:As} (h:Rep s A):∃ s',Flushes s (flushA A).1 s'∧Rep s' (flushA A).2:=h.flushN (Nat.le_refl _)
def MinOf (X:List IT):Option IT→Prop
  | none=>X=[]
  | some m=>m∈X∧∀ y∈X,due y.1 m.1=false
theorem snr_min {S:IT→Prop} (o:OrdOn (fun x y:IT=>due x.1 y.1) S) {X Y:List IT} (hX:∀ z∈X,S z) (hY:∀ z∈Y,S z) {x y:IT} (h1:MinOf X (some x)) (h2:MinOf Y (some y)) {Z:List IT} (hZ:∀ z,z∈Z↔z∈X∨z∈Y):MinOf Z (some (IB.snr x y)):=by
  obtain ⟨x1,x2⟩:=h1
  obtain ⟨y1,y2⟩:=h2
  have sx:=hX x x1
  have sy:=hY y y1
  unfold IB.snr
  cases e:due y.1 x.1
  · refine ⟨(hZ _).2 (.inl x1),fun z hz=>?_⟩
    rcases (hZ z).1 hz with hz | hz
    · exact x2 z hz
    · cases k:due z.1 x.1
      · exact k
      · exfalso
        cases k2:due y.1 z.1
        · have:=o.tri z y (hY z hz) sy (y2 z hz) k2
          subst this;rw [e] at k;cases k
        · have:=o.tr y z x sy (hY z hz) sx k2 k
          rw [show due y.1 x.1=true from this] at e;cases e
  · refine ⟨(hZ _).2 (.inr y1),fun z hz=>?_⟩
    rcases (hZ z).1 hz with hz | hz
    · cases k:due z.1 y.1
      · exact k
      · have:=o.tr z y x (hX z hz) sy sx k e
        exact absurd (x2 z hz) (by rw [show due z.1 x.1=true from this];simp)
    · exact y2 z hz
theorem all_min {S:IT→Prop} (o:OrdOn (fun x y:IT=>due x.1 y.1) S):∀ {t:RB IT},(∀ z∈t.list,S z)→MinOf t.list (IB.all? t)
  | .nil,_=>rfl
  | .node l x r c,h=>by
    have hl:=all_min o (t:=l) fun z hz=>h z (by simp [RB.list,hz])
    have hr:=all_min o (t:=r) fun z hz=>h z (by simp [RB.list,hz])
    have hx:S x:=h x (by simp [RB.list])
    have h0:MinOf [x] (some x):=⟨by simp,fun y hy=>by obtain rfl:=List.mem_singleton.1 hy;exact o.irr y hx⟩
    have hL:∀ z∈l.list,S z:=fun z hz=>h z (by simp [RB.list,hz])
    have hR:∀ z∈r.list,S z:=fun z hz=>h z (by simp [RB.list,hz])
    have h1x:∀ z∈[x],S z:=fun z hz=>by obtain rfl:=List.mem_singleton.1 hz;exact hx
    have h1:MinOf (l.list ++ [x]) (some (match IB.all? l with | none=>x | some a=>IB.snr a x)):=by
      cases e:IB.all? l with
      | none=>rw [e] at hl;rw [show l.list=[] from hl];exact h0
      | some a=>rw [e] at hl;exact snr_min o hL h1x hl h0 (fun z=>by simp)
    have h1':∀ z∈l.list ++ [x],S z:=fun z hz=>by
      rcases List.mem_append.1 hz with hz | hz
      · exact hL z hz
      · exact h1x z hz
    show MinOf (l.list ++ x :: r.list) (some _)
    cases e:IB.all? r with
    | none=>rw [e] at hr;rw [show r.list=[] from hr];exact h1
    | some b=>rw [e] at hr;exact snr_min o h1' hR h1 hr (fun z=>by simp [or_assoc])
theorem fold_min {S:IT→Prop} (o:OrdOn (fun x y:IT=>due x.1 y.1) S) {q:IT→Bool}:∀ {t:RB IT} {acc:Option IT} {X Z:List IT},(∀ z∈t.list,S z)→(∀ z∈X,S z)→MinOf X acc→t.list.Pairwise (fun a b=>q b=true→q a=true)→(∀ z,z∈Z↔z∈X∨(z∈t.list∧q z=true))→MinOf Z (IB.foldT q t acc)
  | .nil,acc,X,Z,_,_,h,_,hZ=>by
    have:∀ z,z∈Z↔z∈X:=fun z=>by rw [hZ];simp [RB.list]
    unfold IB.foldT
    cases acc with
    | none=>exact List.eq_nil_iff_forall_not_mem.2 fun z hz=>by have:=(this z).1 hz;rw [show X=[] from h] at this;cases this
    | some m=>exact ⟨(this m).2 h.1,fun y hy=>h.2 y ((this y).1 hy)⟩
  | .node l x r c,acc,X,Z,hS,hX,h,hp,hZ=>by
    have hx:S x:=hS x (by simp [RB.list])
    have hL:∀ z∈l.list,S z:=fun z hz=>hS z (by simp [RB.list,hz])
    have hR:∀ z∈r.list,S z:=fun z hz=>hS z (by simp [RB.list,hz])
    obtain ⟨p1,p2,p3⟩:=List.pairwise_append.1 (show (l.list ++ x :: r.list).Pairwise _ from hp)
    obtain ⟨p4,p5⟩:=List.pairwise_cons.1 p2
    have h1x:∀ z∈[x],S z:=fun z hz=>by obtain rfl:=List.mem_singleton.1 hz;exact hx
    have h0:MinOf [x] (some x):=⟨by simp,fun y hy=>by obtain rfl:=List.mem_singleton.1 hy;exact o.irr y hx⟩
    unfold IB.foldT
    cases e:q x
    · refine fold_min o hL hX h p1 fun z=>?_
      rw [hZ]
      constructor
      · rintro (h1 | ⟨h1,h2⟩)
        · exact .inl h1
        · rcases List.mem_append.1 (show z∈l.list ++ x :: r.list from h1) with h1 | h1
          · exact .inr ⟨h1,h2⟩
          · rcases List.mem_cons.1 h1 with rfl | h1
            · rw [e] at h2;cases h2
            · have:=p4 z h1 h2;rw [e] at this;cases this
      · rintro (h1 | ⟨h1,h2⟩)
        · exact .inl h1
        · exact .inr ⟨by show z∈l.list ++ x :: r.list;simp [h1],h2⟩
    · have hql:∀ z∈l.list,q z=true:=fun z hz=>p3 z hz x List.mem_cons_self e
      have a1:MinOf (X ++ l.list) (IB.allO acc l):=by
        have hl:=all_min o hL
        unfold IB.allO
        cases e1:IB.all? l with
        | none=>rw [e1] at hl;rw [show l.list=[] from hl,List.append_nil];exact h
        | some a =>
          rw [e1] at hl
          unfold IB.addO
          cases acc with
          | none=>rw [show X=[] from h];exact hl
          | some m=>exact snr_min o hX hL h hl (fun z=>by simp)
      have hXL:∀ z∈X ++ l.list,S z:=fun z hz=>by
        rcases List.mem_append.1 hz with hz | hz
        · exact hX z hz
        · exact hL z hz
      have a2:MinOf (X ++ l.list ++ [x]) (IB.addO (IB.allO acc l) x):=by
        unfold IB.addO
        cases e1:IB.allO acc l with
        | none=>rw [e1] at a1;rw [show X ++ l.list=[] from a1];exact h0
        | some m=>rw [e1] at a1;exact snr_min o hXL h1x a1 h0 (fun z=>by simp [or_assoc])
      refine fold_min (X:=X ++ l.list ++ [x]) o hR (fun z hz=>?_) a2 p5 fun z=>?_
      · rcases List.mem_append.1 hz with hz | hz
        · exact hXL z hz
        · exact h1x z hz
      · rw [hZ]
        constructor
        · rintro (h1 | ⟨h1,h2⟩)
          · exact .inl (by simp [h1])
          · rcases List.mem_append.1 (show z∈l.list ++ x :: r.list from h1) with h1 | h1
            · exact .inl (by simp [h1])
            · rcases List.mem_cons.1 h1 with rfl | h1
              · exact .inl (by simp)
              · exact .inr ⟨h1,h2⟩
        · rintro (h1 | ⟨h1,h2⟩)
          · rcases List.mem_append.1 h1 with h1 | h1
            · rcases List.mem_append.1 h1 with h1 | h1
              · exact .inl h1
              · exact .inr ⟨by show z∈l.list ++ x :: r.list;simp [h1],hql z h1⟩
            · obtain rfl:=List.mem_singleton.1 h1
              exact .inr ⟨by show z∈l.list ++ z :: r.list;simp,e⟩
          · exact .inr ⟨by show z∈l.list ++ x :: r.list;simp [h1],h2⟩
def eligA (A:As):List RT:=A.l.filter fun a=>decide (0≤ovA A a)
def firstDue:List RT→Option RT
  | []=>none
  | a :: l=>some (l.foldl (fun a b=>bif due b.1.i a.1.i then b else a) a)
def soonA (A:As):Option RT:=firstDue (eligA A)
def soonId' (o:Option RT):Int:=match o with | none=>0 | some a=>idR a
def MinR (X:List RT):Option RT→Prop
  | none=>X=[]
  | some m=>m∈X∧∀ y∈X,due y.1.i m.1.i=false
theorem first_min {S:RT→Prop} (o:OrdOn (fun x y:RT=>due x.1.i y.1.i) S):∀ {X:List RT},(∀ z∈X,S z)→MinR X (firstDue X)
  | [],_=>rfl
  | a :: l,h=>by
    suffices H:∀ (l:List RT) (a:RT) (Y:List RT),(∀ z∈Y,S z)→(∀ z∈l,S z)→MinR Y (some a)→MinR (Y ++ l) (some (l.foldl (fun a b=>bif due b.1.i a.1.i then b else a) a)) from
      H l a [a] (fun z hz=>h z (by simp at hz;simp [hz])) (fun z hz=>h z (List.mem_cons_of_mem _ hz)) ⟨by simp,fun y hy=>by obtain rfl:=List.mem_singleton.1 hy;exact o.irr y (h y List.mem_cons_self)⟩
    intro l
    induction l with
    | nil=>intro a Y _ _ h;rw [List.append_nil];exact h
    | cons b l ih =>
      intro a Y hY hl h
      rw [List.foldl_cons,show Y ++ b :: l=(Y ++ [b]) ++ l by simp]
      have hb:=hl b List.mem_cons_self
      have ha:=hY a h.1
      refine ih _ _ (fun z hz=>?_) (fun z hz=>hl z (List.mem_cons_of_mem _ hz)) ?_
      · rcases List.mem_append.1 hz with hz | hz
        · exact hY z hz
        · obtain rfl:=List.mem_singleton.1 hz;exact hb
      · cases e:due b.1.i a.1.i
        · refine ⟨by simp [h.1],fun y hy=>?_⟩
          rcases List.mem_append.1 hy with hy | hy
          · exact h.2 y hy
          · obtain rfl:=List.mem_singleton.1 hy;exact e
        · refine ⟨by simp,fun y hy=>?_⟩
          rcases List.mem_append.1 hy with hy | hy
          · show due y.1.i b.1.i=false
            cases k:due y.1.i b.1.i
            · rfl
            · have:=o.tr y b a (hY y hy) hb ha k e
              exact absurd (h.2 y hy) (by rw [show due y.1.i a.1.i=true from this];simp)
          · obtain rfl:=List.mem_singleton.1 hy;exact o.irr y hb
theorem OrdR.inj {l:List RT} (h:OrdR l):∀ x∈l,∀ y∈l,idR x=idR y→x=y:=fun x hx y hy e=>by
  have h1:=findR_at h hx
  rw [e,findR_at h hy] at h1
  exact (Option.some.inj h1).symm
theorem ahead_le {b lo:Int} {x y:It} (hx:Win b lo x) (hy:Win b lo y) (hm:Mid lo) (h:ahead x y=true):leP b x.p y.p:=by
  have d1:=hx.dead hm
  have d2:=hy.dead hm
  have l1:=hx.low
  have l2:=hy.low
  have hc:=cmp_le (cmpP_frac hx.isin.1 hy.isin.1 (iright_all hx.isin hx.right).1 (iright_all hy.isin hy.right).1 (b:=b) (by unfold Near;unfold Mid at hm;omega))
  unfold ahead at h
  simp only [Bool.or_eq_true,Bool.and_eq_true,decide_eq_true_eq] at h
  rcases h with h | h
  · have:=hc.1.1 h;unfold leP at *;omega
  · exact (hc.2.1 h.1).1
theorem elig_ahead {m:Mn} {l:List It} (h:Cen m l) {x y:It} (hx:x∈l) (hy:y∈l) (ha:ahead x y=true) (he:elig m y.p=true):elig m x.p=true:=by
  obtain ⟨lo,k⟩:=h.all
  have wx:=k.2.2 x hx
  have wy:=k.2.2 y hy
  have hl:=ahead_le wx wy k.1 ha
  unfold elig at he ⊢
  rw [(over_ok h hx).1]
  rw [(over_ok h hy).1] at he
  simp only [Option.isSome_some,Option.getD_some,Bool.true_and,decide_eq_true_eq] at he ⊢
  have p1:=(iright_all wx.isin wx.right).2.2.2.2.2.2.1
  have p2:=(iright_all wy.isin wy.right).2.2.2.2.2.2.1
  have a0:=h.a0
  have a1:=h.a1
  have:=fr_trans (p:=x.p.w) (q:=y.p.w) (r:=m.w) (by omega) (by omega) (by omega) hl (show dist y.p m.b*m.w≤m.a*y.p.w by unfold ovL at he;omega)
  unfold ovL;omega
def soonI (A:As):It:=match soonA A with | none => .zero | some a=>a.1.i
theorem Rep.soon {s:Ss} {A:As} (h:Rep s A):IB.valO (soonQ s.q)=soonI A∧(soonQ s.q).isSome=(soonA A).isSome:=by
  obtain ⟨lo,hW⟩:=h.q.win
  have hwin:=plain_win hW
  have o1:OrdOn (fun x y:IT=>due x.1 y.1) (·∈s.q.t.list):=dueT hwin hW.1 h.q.inj
  have hin:∀ a:RT,a∈A.l→itR a∈s.q.t.list:=fun a ha=>h.p.mem_iff.2 (List.mem_map_of_mem ha)
  have o2:OrdOn (fun x y:RT=>due x.1.i y.1.i) (·∈A.l):=⟨fun a ha=>o1.irr (itR a) (hin a ha),fun a b c ha hb hc=>o1.tr (itR a) (itR b) (itR c) (hin a ha) (hin b hb) (hin c hc),fun a b ha hb k1 k2=>by
    have:=o1.tri (itR a) (itR b) (hin a ha) (hin b hb) k1 k2
    exact h.o.inj a ha b hb (congrArg (fun z:IT=>z.1.id) this)⟩
  have hmono:s.q.t.list.Pairwise (fun a b=>elig s.q.m b.1.p=true→elig s.q.m a.1.p=true):=by
    by_cases e:s.q.t.list=[]
    · rw [e];exact List.Pairwise.nil
    · refine List.Pairwise.imp_of_mem (fun {a b} ha hb hab=>?_) h.q.srt
      exact elig_ahead (h.q.cen e) (List.mem_map_of_mem ha) (List.mem_map_of_mem hb) hab
  have hE:∀ a∈A.l,elig s.q.m a.1.i.p=decide (0≤ovA A a):=fun a ha=>by
    unfold elig
    rw [(h.over ha).1];rfl
  have hm:MinOf ((eligA A).map itR) (soonQ s.q):=fold_min (X:=[]) o1 (fun z hz=>hz) (fun z hz=>by cases hz) rfl hmono fun z=>by
    rw [List.mem_map]
    constructor
    · rintro ⟨a,ha,rfl⟩
      obtain ⟨h1,h2⟩:=List.mem_filter.1 ha
      exact .inr ⟨hin a h1,by show elig s.q.m a.1.i.p=true;rw [hE a h1];exact h2⟩
    · rintro (h1 | ⟨h1,h2⟩)
      · cases h1
      · obtain ⟨a,ha,rfl⟩:=List.mem_map.1 (h.p.mem_iff.1 h1)
        exact ⟨a,List.mem_filter.2 ⟨ha,by rw [← hE a ha];exact h2⟩,rfl⟩
  have hr:MinR (eligA A) (soonA A):=first_min o2 fun z hz=>(List.mem_filter.1 hz).1
  cases e1:soonQ s.q with
  | none =>
    rw [e1] at hm
    have:eligA A=[]:=List.map_eq_nil_iff.1 hm
    unfold soonI soonA
    rw [this];exact ⟨rfl,rfl⟩
  | some m =>
    rw [e1] at hm
    obtain ⟨h1,h2⟩:=hm
    obtain ⟨a,ha,rfl⟩:=List.mem_map.1 h1
    cases e2:soonA A with
    | none=>rw [e2] at hr;rw [show eligA A=[] from hr] at ha;cases ha
    | some b =>
      rw [e2] at hr
      obtain ⟨h3,h4⟩:=hr
      have:a=b:=o2.tri a b (List.mem_filter.1 ha).1 (List.mem_filter.1 h3).1 (h4 a ha) (h2 (itR b) (List.mem_map_of_mem h3))
      subst this
      unfold soonI
      rw [e2];exact ⟨rfl,rfl⟩
theorem Rep.soonId {s:Ss} {A:As} (h:Rep s A):Go.Proofs.YtkbcfknnieggbaaGreatDoorX.soonId s.q=soonId' (soonA A):=by
  unfold Go.Proofs.YtkbcfknnieggbaaGreatDoorX.soonId
  rw [h.soon.1]
  unfold soonI
  cases soonA A <;> rfl
end Go.Proofs.YtkbcfknnieggbaaGreatDoorX

namespace Go.Proofs.YtkbcfknnieggbaaGreatDoorX
open IB (IT)
def er (r:RT):RT:=wakeR r false
theorem er_wake (a:RT) (b:Bool):er (wakeR a b)=er a:=rfl
theorem er_id (a:RT):idR (er a)=idR a:=rfl
def erL (l:List RT):List RT:=l.map er
theorem its_er (l:List RT):its (erL l)=its l:=by unfold its erL;rw [List.map_map];rfl
theorem er_put {a r:RT} (hr:er r=er a):∀ {l:List RT},findR l (idR a)=some a→OrdR l→erL (putR r l)=erL l
  | [],h,_=>by cases h
  | x :: l,h,ho=>by
    have hid:idR r=idR a:=by rw [← er_id r,hr,er_id]
    rw [findR_cons] at h
    by_cases e:idR x=idR a
    · rw [if_pos e] at h
      cases h
      unfold putR
      rw [if_neg (by omega),if_pos hid]
      show er r :: erL l=er a :: erL l
      rw [hr]
    · rw [if_neg e] at h
      obtain ⟨hm,_⟩:=findR_some h
      have hlt:idR x < idR a:=by
        unfold OrdR at ho
        rw [List.map_cons,List.pairwise_cons] at ho
        exact ho.1 _ (List.mem_map_of_mem hm)
      unfold putR
      rw [if_neg (by omega),if_neg (by omega)]
      show er x :: erL (putR r l)=er x :: erL l
      rw [er_put hr h (by unfold OrdR at *;rw [List.map_cons,List.pairwise_cons] at ho;exact ho.2)]
def AlikeA (A B:As):Prop:=erL A.l=erL B.l∧A.c=B.c
theorem AlikeA.refl (A:As):AlikeA A A:=⟨rfl,rfl⟩
theorem AlikeA.rouse {A B:As} (h:AlikeA A B) (ho:OrdR B.l) (id:Int) (b:Bool):AlikeA A (rouA B id b):=by
  unfold rouA
  cases e:findR B.l id with
  | none=>exact h
  | some a =>
    obtain ⟨_,e2⟩:=findR_some e
    refine ⟨?_,h.2⟩
    show erL A.l=erL (putR (wakeR a b) B.l)
    rw [er_put (er_wake a b) (by rw [e2];exact e) ho]
    exact h.1
theorem AlikeA.itsEq {A B:As} (h:AlikeA A B):its A.l=its B.l:=by rw [← its_er,h.1,its_er]
end Go.Proofs.YtkbcfknnieggbaaGreatDoorX

namespace Go.Proofs.YtkbcfknnieggbaaGreatDoorX
open IB (IT)
/-! Lists. -/
section
variable (f : RT → RT) (hf : ∀ r, idR (f r) = idR r)
include hf
end
/-! Sets. -/
/-! Lags, who goes, who runs. -/
end Go.Proofs.YtkbcfknnieggbaaGreatDoorX

namespace Go.Proofs.YtkbcfknnieggbaaGreatDoorX
open Go Go.RowKit
structure Ac16 where
  d:Int
  r:RT
theorem rzero_in:Rq.zero.In:=by decide
instance:Inhabited Ac16:=⟨⟨0,⟨.zero,rzero_in⟩⟩⟩
end Go.Proofs.YtkbcfknnieggbaaGreatDoorX

namespace Go.Proofs.YtkbcfknnieggbaaGreatDoorX
open Go Go.RowKit Go.Maps Go.Shelf
open IB (IT ITsAt flatT)
attribute [local irreducible] XS XC XA thenE blockE retE loopE loopS cutB cutN doneE SE
theorem mcloneI_ret (b c:Nat) (f:Int→Option Value) (w0:World) (h:MapAt w0 b f c):Ret Tryz.prog 171 #[.map (some b)] w0 fun v w'=>(∃ mb,v = .map (some mb)∧MapAt w' mb f c∧w0.heap.size≤mb)∧Only [] w0 w':=by
  obtain ⟨D,h1,h2⟩:=h
  exact ret_of_calls (by kernel_rfl) ((AnyW.maps_Clone_owns Tryz.cloneI 3 hld b c D w0 h1).mono fun e w' ⟨he,k1,k2,k3⟩=>⟨_,he,⟨_,rfl,⟨D,k1,h2⟩,Nat.le_refl _⟩,Only.of_below k3⟩)
theorem mcloneR_ret (b c:Nat) (f:Int→Option Value) (w0:World) (h:MapAt w0 b f c):Ret Tryz.prog 123 #[.map (some b)] w0 fun v w'=>(∃ mb,v = .map (some mb)∧MapAt w' mb f c∧w0.heap.size≤mb)∧Only [] w0 w':=by
  obtain ⟨D,h1,h2⟩:=h
  exact ret_of_calls (by kernel_rfl) ((AnyW.maps_Clone_owns Tryz.cloneR 3 hld b c D w0 h1).mono fun e w' ⟨he,k1,k2,k3⟩=>⟨_,he,⟨_,rfl,⟨D,k1,h2⟩,Nat.le_refl _⟩,Only.of_below k3⟩)
set_option maxHeartbeats 4000000 in
theorem qclone_ret (qb:Nat) (s:Qs) (F:List Nat) (w0:World) (h:QAt w0 qb s F) :
    Ret Tryz.prog 122 #[.pointer (some ⟨qb,0,none⟩)] w0 fun v w'=>(∃ q' F',v = .pointer (some ⟨q',0,none⟩)∧QAt w' q' s F'∧∀ k∈F',w0.heap.size≤k)∧Only [] w0 w':=by
  obtain ⟨tb,mb,Ft,rfl,h1,h2,h3,h4,h5⟩:=h
  have hs:=(St.nil w0).track h1 (by simp)
  refine ret_of_xc Tryz.func122 (by kernel_rfl) rfl Tryz.ntmps122 rfl rfl rfl ?_
  repeat' (first|refine vs (k:=?_)|refine qRg ?_|refine Nx.h ?_|refine qCf ?_|fail)
  refine dr [] hs (k:=?_);intro hX w hs
  refine tk 0 hX (k:=?_)
  refine tk 1 hX (k:=?_)
  refine tk 2 hX (k:=?_)
  refine tk 3 hX (k:=?_)
  refine tk 4 hX (k:=?_)
  refine tk 5 hX (k:=?_)
  refine tk 6 hX (k:=?_)
  refine tk 7 hX (k:=?_)
  refine tk 9 hX (k:=?_)
  refine tk 10 hX (k:=?_)
  refine tk 11 hX (k:=?_)
  refine tk 12 hX (k:=?_)
  refine tk 14 hX (k:=?_)
  refine tk 15 hX (k:=?_)
  refine tk 16 hX (k:=?_)
  refine tk 17 hX (k:=?_)
  refine dt 8 hX (k:=?_)
  have ho:=hs.onlyF [] (by simp [h1]) (by simp [D0])
  (with_reducible apply xs_call);exact rfl;exact rfl;exact IB.dclone_ret tb s.t Ft _ (h3.only ho)
  rintro v w1 ⟨⟨t',Ft',rfl,k3,hF⟩,ho1⟩;replace hs:=hs.call0 ho1;repeat' (first|refine Nx.h ?_|fail)
  have n1:=ho.size
  refine dn (k:=?_)
  refine dt 13 hX (k:=?_)
  have ho2:=hs.onlyF [] (by simp [h1]) (by simp [D0])
  (with_reducible apply xs_call);exact rfl;exact rfl;exact mcloneI_ret mb s.n _ _ (h2.keep ho2 (by simp))
  rintro v w2 ⟨⟨m',rfl,k2,hm⟩,ho3⟩;replace hs:=hs.call0 ho3
  have n2:=ho2.size
  have l3:=k3.lt
  have hoA:=hs.onlyF [] (by simp [h1]) (by simp [D0])
  have kq:=hs.get At.head
  have n3:=hoA.size
  have n4:=ho3.size
  clear hs
  have hs:=(St.nil w2).track kq (by simp)
  repeat' (first|refine Nx.h ?_|fail)
  refine dn (k:=?_)
  refine tk 18 hX (k:=?_)
  refine dt 19 hX (k:=?_)
  repeat' (first|(refine bx hs (k:=?_);intro b w hz hs)|refine Nx.h ?_|fail)
  have n5:=hs.new _ (List.mem_cons_self) rfl
  simp only at n5
  refine dn (k:=?_)
  refine tk 20 hX (k:=?_)
  refine en (k:=?_)
  repeat' (first|refine Nx.h ?_|fail)
  first | refine rt (hq:=?_) | refine rt' (hq:=?_)
  have ho4:=hs.onlyF [] (by simp [kq]) (by simp [D0])
  exact ⟨⟨_,_,rfl,⟨t',m',Ft',rfl,hs.get At.head,k2.keep ho4 (by simp),(k3.only ho3).only ho4,h4,h5⟩,fun k hk=>by
    simp only [List.mem_cons] at hk
    rcases hk with rfl | rfl | hk
    · omega
    · omega
    · have:=hF k hk;omega⟩,hoA.step ho4 (by simp)⟩
set_option maxHeartbeats 4000000 in
theorem sclone_ret (sb:Nat) (s:Ss) (F:List Nat) (w0:World) (h:SAt w0 sb s F) :
    Ret Tryz.prog 63 #[.pointer (some ⟨sb,0,none⟩)] w0 fun v w'=>(∃ s' F',v = .pointer (some ⟨s',0,none⟩)∧SAt w' s' s F'∧∀ k∈F',w0.heap.size≤k)∧Only [] w0 w':=by
  obtain ⟨qb,mb,Fq,rfl,h1,h2,h3,h4,h5⟩:=h
  have hs:=(St.nil w0).track h1 (by simp)
  refine ret_of_xc Tryz.func63 (by kernel_rfl) rfl Tryz.ntmps63 rfl rfl rfl ?_
  repeat' (first|refine vs (k:=?_)|refine qRg ?_|refine Nx.h ?_|refine qCf ?_|fail)
  refine dr [] hs (k:=?_);intro hX w hs
  refine tk 0 hX (k:=?_)
  refine tk 1 hX (k:=?_)
  refine tk 2 hX (k:=?_)
  refine tk 3 hX (k:=?_)
  refine tk 5 hX (k:=?_)
  refine tk 6 hX (k:=?_)
  refine tk 7 hX (k:=?_)
  refine tk 8 hX (k:=?_)
  refine dt 4 hX (k:=?_)
  have ho:=hs.onlyF [] (by simp [h1]) (by simp [D0])
  (with_reducible apply xs_call);exact rfl;exact rfl;exact qclone_ret qb s.q Fq _ (h3.only ho)
  rintro v w1 ⟨⟨q',Fq',rfl,k3,hF⟩,ho1⟩;replace hs:=hs.call0 ho1;repeat' (first|refine Nx.h ?_|fail)
  have n1:=ho.size
  refine dn (k:=?_)
  refine dt 9 hX (k:=?_)
  have ho2:=hs.onlyF [] (by simp [h1]) (by simp [D0])
  (with_reducible apply xs_call);exact rfl;exact rfl;exact mcloneR_ret mb s.l.length _ _ (h2.keep ho2 (by simp))
  rintro v w2 ⟨⟨m',rfl,k2,hm⟩,ho3⟩;replace hs:=hs.call0 ho3
  have n2:=ho2.size
  have l3:=k3.lt
  have hoA:=hs.onlyF [] (by simp [h1]) (by simp [D0])
  have kq:=hs.get At.head
  have n3:=hoA.size
  have n4:=ho3.size
  clear hs
  have hs:=(St.nil w2).track kq (by simp)
  repeat' (first|refine Nx.h ?_|fail)
  refine dn (k:=?_)
  refine tk 10 hX (k:=?_)
  refine dt 11 hX (k:=?_)
  repeat' (first|(refine bx hs (k:=?_);intro b w hz hs)|refine Nx.h ?_|fail)
  have n5:=hs.new _ (List.mem_cons_self) rfl
  simp only at n5
  refine dn (k:=?_)
  refine tk 12 hX (k:=?_)
  refine en (k:=?_)
  repeat' (first|refine Nx.h ?_|fail)
  first | refine rt (hq:=?_) | refine rt' (hq:=?_)
  have ho4:=hs.onlyF [] (by simp [kq]) (by simp [D0])
  exact ⟨⟨_,_,rfl,⟨q',m',Fq',rfl,hs.get At.head,k2.keep ho4 (by simp),(k3.only ho3).only ho4,fun hm'=>by have:=l3 _ hm';omega,h5⟩,fun k hk=>by
    simp only [List.mem_cons] at hk
    rcases hk with rfl | rfl | hk
    · omega
    · omega
    · have:=hF k hk;omega⟩,hoA.step ho4 (by simp)⟩
end Go.Proofs.YtkbcfknnieggbaaGreatDoorX

namespace Go.Proofs.YtkbcfknnieggbaaGreatDoorX
open Go Go.RowKit
open IB (IT ITsAt flatT)
attribute [local irreducible] XS XC XA thenE blockE retE loopE loopS cutB cutN doneE SE
def SetAt (w:World) (sb:Nat) (A:As) (F:List Nat):Prop:=∃ s,SAt w sb s F∧Rep s A
theorem SetAt.keepD {w w':World} {sb:Nat} {A:As} {F G:List Nat} (h:SetAt w sb A F) (ho:Only G w w') (hd:∀ k∈F,k∉G):SetAt w' sb A F:=by obtain ⟨s,h1,h2⟩:=h;exact ⟨s,h1.keepD ho hd,h2⟩
theorem SetAt.only {w w':World} {sb:Nat} {A:As} {F:List Nat} (h:SetAt w sb A F) (ho:Only [] w w'):SetAt w' sb A F:=h.keepD ho (by simp)
theorem SetAt.lt {w:World} {sb:Nat} {A:As} {F:List Nat} (h:SetAt w sb A F):∀ k∈F,k < w.heap.size:=by obtain ⟨s,h1,h2⟩:=h;exact h1.lt
theorem SetAt.not {w:World} {sb:Nat} {A:As} {F:List Nat} (h:SetAt w sb A F) {b:Nat} {cs:Array Value} {ty:Nat} {fz:Nat × Nat} (hb:w.heap[b]?=some (.cells cs ty fz)) (ho:okS (.cells cs ty fz)=true):b∉F:=by obtain ⟨s,h1,h2⟩:=h;exact h1.not hb ho
def QuAt (w:World) (qb:Nat) (A:As):Prop:=∃ s F,QAt w qb s.q F∧Rep s A
theorem QuAt.only {w w':World} {qb:Nat} {A:As} (h:QuAt w qb A) (ho:Only [] w w'):QuAt w' qb A:=by obtain ⟨s,F,h1,h2⟩:=h;exact ⟨s,F,h1.only ho,h2⟩
theorem SetAt.opn {w:World} {sb:Nat} {A:As} {F:List Nat} (h:SetAt w sb A F):∃ qb mb,w.heap[sb]?=some (setO qb mb)∧QuAt w qb A:=by
  obtain ⟨s,⟨qb,mb,Fq,rfl,h1,h2,h3,h4⟩,hr⟩:=h
  exact ⟨qb,mb,h1,s,Fq,h3,hr⟩
theorem SetAt.rep {w:World} {sb:Nat} {A:As} {F:List Nat} (h:SetAt w sb A F):∃ s,Rep s A:=by obtain ⟨s,h1,h2⟩:=h;exact ⟨s,h2⟩
theorem Rep.small {s:Ss} {A:As} (h:Rep s A):s.l.length < 1000000∧s.q.t.list.length+1≤1000000∧s.q.n < 1000000∧A.l.length≤1000000:=by
  have:=h.le
  have:=h.len
  have:=h.q.n
  rw [h.l];omega
def Left (w0:World) (sb:Nat) (A:As) (F:List Nat) (w':World):Prop:=∃ F',SetAt w' sb A F'∧(∀ k∈F',k∈F∨w0.heap.size≤k)∧Only F w0 w'
theorem anew_ret (c:Int) (hc:U64 c) (w0:World):Ret Tryz.prog 40 #[.int .u64 c] w0 fun v w'=>(∃ sb F,v = .pointer (some ⟨sb,0,none⟩)∧SetAt w' sb ⟨[],c⟩ F∧∀ k∈F,w0.heap.size≤k)∧Only [] w0 w' :=
  (snew_ret c hc w0).mono fun v w' ⟨⟨sb,F,h1,h2,h3⟩,ho⟩=>⟨⟨sb,F,h1,⟨_,h2,Rep.new c⟩,h3⟩,ho⟩
theorem aenter_ret (sb:Nat) (A:As) (F:List Nat) (r:RT) (w0:World) (h:SetAt w0 sb A F):Ret Tryz.prog 42 #[.pointer (some ⟨sb,0,none⟩),rv r.1] w0 fun v w'=>v = .int .i64 (entE A r)∧Left w0 sb (entA A r) F w':=by
  obtain ⟨s,h1,h2⟩:=h
  obtain ⟨k1,k2⟩:=h2.enter r
  rw [← k1]
  exact (enter_ret sb s F r w0 h1 h2.small.1 h2.small.2.1 h2.small.2.2.1).mono fun v w' ⟨e,F',a,b⟩=>⟨e,F',⟨_,a,k2⟩,b⟩
theorem aput_ret (sb:Nat) (A:As) (F:List Nat) (r:RT) (w0:World) (h:SetAt w0 sb A F):Ret Tryz.prog 46 #[.pointer (some ⟨sb,0,none⟩),rv r.1] w0 fun v w'=>v = .int .i64 (putE A r)∧Left w0 sb (putA A r) F w':=by
  obtain ⟨s,h1,h2⟩:=h
  obtain ⟨k1,k2,k3⟩:=h2.put r
  rw [← k1]
  exact (sput_ret sb s F r w0 h1 h2.small.1 h2.small.2.1 h2.small.2.2.1 k3).mono fun v w' ⟨e,F',a,b⟩=>⟨e,F',⟨_,a,k2⟩,b⟩
theorem areq_ret (sb:Nat) (A:As) (F:List Nat) (id:Int) (w0:World) (h:SetAt w0 sb A F) (hid:In64 id):Ret Tryz.prog 15 #[.pointer (some ⟨sb,0,none⟩),.int .i64 id] w0 fun v w'=>v = .tuple #[rv (getL A.l id),.bool (findR A.l id).isSome]∧Only [] w0 w':=by
  obtain ⟨s,h1,h2⟩:=h
  rw [← h2.l]
  exact req_ret sb s F id w0 h1 hid
set_option maxHeartbeats 4000000 in
theorem exit_none (sb:Nat) (s:Ss) (F:List Nat) (id:Int) (w0:World) (h:SAt w0 sb s F) (hid:In64 id) (hlen:s.q.t.list.length≤1000000) (hf:s.q.f id=none) :
    Ret Tryz.prog 44 #[.pointer (some ⟨sb,0,none⟩),.int .i64 id] w0 fun v w'=>v = .tuple #[rv .zero,.int .i64 14]∧∃ F',SAt w' sb s F'∧(∀ k∈F',k∈F∨w0.heap.size≤k)∧Only F w0 w':=by
  have hS:=h
  obtain ⟨qb,mb,Fq,rfl,h1,h2,h3,h4,h5⟩:=h
  have hs:=(St.nil w0).track h1 (by simp)
  have hlt:=hS.lt
  refine ret_of_xc Tryz.func44 (by kernel_rfl) rfl Tryz.ntmps44 rfl rfl rfl ?_
  refine xc_seq ?_
  refine xc_region ?_ ?_;exact rfl
  refine al hs (k:=?_);intro b4 w hz hs
  have g4:=hs.new (b4,true) (by simp) rfl
  simp only at g4
  repeat' (first|refine vs (k:=?_)|refine qRg ?_|refine Nx.h ?_|refine qCf ?_|fail)
  have ho:=hs.onlyF [] (by simp [h1]) (by simp [D0])
  have hsz:=ho.size
  have l4:=lt_of_block (hs.get At.head)
  (with_reducible apply xs_call);exact rfl;exact rfl;exact qleave_ret qb s.q Fq id _ (h3.only ho) hid hlen (fun a' e=>by rw [hf] at e;cases e)
  rw [show leaveQ s.q id=s.q by unfold leaveQ;rw [hf],hf]
  rintro v w1 ⟨rfl,F',hQ,hF',ho1⟩
  have hno:∀ k∈Fq,k∉[b4,sb]:=fun k hk hm=>by
    have hl:=hlt k (by simp [hk])
    simp only [List.mem_cons,List.not_mem_nil,or_false] at hm
    rcases hm with rfl | rfl
    · omega
    · exact h3.not h1 (by decide) (by decide) (by decide) hk
  have hmF:mb∉F':=fun hm=>by
    have:=hlt mb (by simp)
    rcases hF' mb hm with h | h
    · exact h4 h
    · omega
  have hF2:∀ k∈sb :: mb :: F',k∈sb :: mb :: Fq∨w0.heap.size≤k:=fun k hk=>by
    simp only [List.mem_cons] at hk ⊢
    rcases hk with rfl | rfl | hk
    · simp
    · simp
    · rcases hF' k hk with h | h
      · simp [h]
      · exact .inr (by omega)
  have hM1:=(h2.keep ho (by simp)).keep ho1 h4
  have k4:=ho1.block (hs.get At.head) (fun hm=>hno _ hm (by simp))
  have k6:=ho1.block (hs.get (At.tail At.head)) (fun hm=>hno _ hm (by simp))
  have n46:b4≠sb:=by have:=hlt sb (by simp);omega
  have hoA:Only (sb :: mb :: Fq) w0 w1:=(ho.weaken (by simp)).step ho1 (fun k hk => .inl (by simp [hk]))
  clear hs
  have hs:=((St.nil w1).track k6 (by simp)).track k4 (by simpa using n46)
  repeat' (first|refine vs (k:=?_)|(refine stA hs (k:=?_);intro w hs)|(refine al hs (k:=?_);intro b w hz hs)|refine qRg ?_|refine Nx.h ?_|refine qCt ?_|fail)
  first | refine rt (hq:=?_) | refine rt' (hq:=?_)
  have hoC:=hs.onlyF [b4] (by simp [k6]) (by simp [D0])
  have hs4:b4∉F':=fun hm=>by
    rcases hF' b4 hm with h | h
    · exact hno b4 h (by simp)
    · omega
  exact ⟨rfl,_,⟨qb,mb,F',rfl,hs.get (At.tail (At.tail At.head)),hM1.keep hoC (by simp;have:=hlt mb (by simp);omega),hQ.keepD hoC (fun k hk hm=>by obtain rfl:=List.mem_singleton.1 hm;exact hs4 hk),hmF,h5⟩,hF2,hoA.step hoC (fun k hk => .inr (by obtain rfl:=List.mem_singleton.1 hk;exact g4))⟩
theorem aexit_ret (sb:Nat) (A:As) (F:List Nat) (id:Int) (w0:World) (h:SetAt w0 sb A F) (hid:In64 id):Ret Tryz.prog 44 #[.pointer (some ⟨sb,0,none⟩),.int .i64 id] w0 fun v w'=>v = .tuple #[rv (getL A.l id),.int .i64 (errN (findR A.l id).isSome)]∧Left w0 sb (extA A id) F w':=by
  obtain ⟨s,h1,h2⟩:=h
  cases e:findR A.l id with
  | some a =>
    obtain ⟨k1,k2,k3⟩:=h2.exit e
    have:=exit_ret sb s F id w0 h1 hid (by have:=h2.small;omega) (itR a) k1 k2
    rw [h2.l] at this
    exact this.mono fun v w' ⟨e',F',a,b⟩=>⟨e',F',⟨_,a,k3⟩,b⟩
  | none =>
    have:=exit_none sb s F id w0 h1 hid (by have:=h2.small;omega) (by rw [h2.f,e];rfl)
    refine this.mono fun v w' ⟨e',F',a,b⟩=>⟨?_,F',⟨_,a,?_⟩,b⟩
    · rw [e'];unfold getL;rw [e];rfl
    · unfold extA;rw [e];exact h2
theorem arouse_ret (sb:Nat) (A:As) (F:List Nat) (id:Int) (b:Bool) (w0:World) (h:SetAt w0 sb A F) (hid:In64 id):Ret Tryz.prog 115 #[.pointer (some ⟨sb,0,none⟩),.int .i64 id,.bool b] w0 fun v w'=>v = .int .i64 (errN (findR A.l id).isSome)∧Left w0 sb (rouA A id b) F w':=by
  obtain ⟨s,h1,h2⟩:=h
  have:=rouse_ret sb s F id b w0 h1 hid h2.small.1
  unfold rouseE at this
  rw [h2.l] at this
  exact this.mono fun v w' ⟨e,a,c⟩=>⟨e,F,⟨_,a,h2.rouse id b⟩,fun k hk => .inl hk,c⟩
theorem areqs_ret (sb:Nat) (A:As) (F:List Nat) (w0:World) (h:SetAt w0 sb A F):Ret Tryz.prog 17 #[.pointer (some ⟨sb,0,none⟩)] w0 fun v w'=>(∃ G,SlV w' 51 10 v A.l.length (flatR A.l) G∧∀ k∈G,w0.heap.size≤k)∧Only [] w0 w':=by
  obtain ⟨s,h1,h2⟩:=h
  rw [← h2.l]
  exact reqs_ret sb s F w0 h1 (by have:=h2.small;omega)
theorem aclone_ret (sb:Nat) (A:As) (F:List Nat) (w0:World) (h:SetAt w0 sb A F):Ret Tryz.prog 63 #[.pointer (some ⟨sb,0,none⟩)] w0 fun v w'=>(∃ s' F',v = .pointer (some ⟨s',0,none⟩)∧SetAt w' s' A F'∧∀ k∈F',w0.heap.size≤k)∧Only [] w0 w':=by
  obtain ⟨s,h1,h2⟩:=h
  exact (sclone_ret sb s F w0 h1).mono fun v w' ⟨⟨s',F',e,a,b⟩,ho⟩=>⟨⟨s',F',e,⟨s,a,h2⟩,b⟩,ho⟩
theorem aowed_ret (qb:Nat) (A:As) (id:Int) (w0:World) (h:QuAt w0 qb A) (hid:In64 id):Ret Tryz.prog 18 #[.pointer (some ⟨qb,0,none⟩),.int .i64 id] w0 fun v w'=>v = .tuple #[.int .i64 (owedA A id),.int .i64 (errN (findR A.l id).isSome)]∧Only [] w0 w':=by
  obtain ⟨s,F,h1,h2⟩:=h
  rw [← h2.owed,← h2.fs]
  exact qowed_ret qb s.q F id w0 h1 hid
theorem alag_ret (qb:Nat) (A:As) (id:Int) (w0:World) (h:QuAt w0 qb A) (hid:In64 id):Ret Tryz.prog 31 #[.pointer (some ⟨qb,0,none⟩),.int .i64 id] w0 fun v w'=>v = .tuple #[wv (lagA A id),.int .i64 (errN (findR A.l id).isSome)]∧Only [] w0 w':=by
  obtain ⟨s,F,h1,h2⟩:=h
  rw [← h2.lag,← h2.fs]
  exact qlag_ret qb s.q F id w0 h1 hid
theorem anow_ret (qb:Nat) (A:As) (w0:World) (h:QuAt w0 qb A):Ret Tryz.prog 35 #[.pointer (some ⟨qb,0,none⟩)] w0 fun v w'=>v = .int .u64 (nowA A)∧Only [] w0 w':=by
  obtain ⟨s,F,h1,h2⟩:=h
  rw [← h2.now]
  exact qnow_ret qb s.q F w0 h1
theorem alen_ret (qb:Nat) (A:As) (w0:World) (h:QuAt w0 qb A):Ret Tryz.prog 13 #[.pointer (some ⟨qb,0,none⟩)] w0 fun v w'=>v = .int .i64 (A.l.length:Nat)∧Only [] w0 w':=by
  obtain ⟨s,F,h1,h2⟩:=h
  rw [← h2.len]
  exact qlen_ret qb s.q F w0 h1
def MeanFor (A:As) (m:Mn):Prop:=if A.l=[] then m.a=0∧m.w=0∧m.n=0 else m=mA A
theorem Rep.meanFor {s:Ss} {A:As} (h:Rep s A):MeanFor A s.q.m:=by
  unfold MeanFor
  by_cases e:A.l=[]
  · rw [if_pos e];exact h.q.nil (h.nil.2 e)
  · rw [if_neg e];exact h.mean e
def run1 (A:As):Int:=soonId' (soonA (flushA A).2)
theorem asettle_ret (sb:Nat) (A:As) (F:List Nat) (w0:World) (h:SetAt w0 sb A F) :
    Ret Tryz.prog 14 #[.pointer (some ⟨sb,0,none⟩)] w0 fun v w'=>∃ sl,v = .tuple #[sl,.int .i64 (run1 A)]∧(∃ G,SlV w' 53 13 sl (flushA A).1.length (flatG (flushA A).1) G∧∀ k∈G,w0.heap.size≤k)∧Left w0 sb (flushA A).2 F w':=by
  obtain ⟨s,h1,h2⟩:=h
  obtain ⟨s',k1,k2⟩:=h2.flush
  have hl:∀ n B,(flushN n B).1.length≤n:=fun n=>by
    induction n with
    | zero=>intro B;exact Nat.le_refl _
    | succ n ih =>
      intro B
      unfold flushN
      cases B.l.find? (goesA B) with
      | none=>exact Nat.zero_le _
      | some a=>simp only [List.length_cons];have:=ih (extA B (idR a));omega
  have:=h2.small
  have hle:=hl A.l.length A
  unfold run1
  rw [← k2.soonId]
  exact (settle_ret sb s s' (flushA A).1 F w0 h1 (by omega) (by omega) (by show (flushN _ _).1.length≤_;omega) k1).mono fun v w' ⟨sl,e,a,F',b,c⟩=>⟨sl,e,a,F',⟨_,b,k2⟩,c⟩
end Go.Proofs.YtkbcfknnieggbaaGreatDoorX

namespace Go.Proofs.YtkbcfknnieggbaaGreatDoorX
open Go Go.RowKit
end Go.Proofs.YtkbcfknnieggbaaGreatDoorX

namespace Go.Proofs.YtkbcfknnieggbaaGreatDoorX
open Go Go.RowKit
section
variable {P : Program} {ops : Array Oper} {QE : Exit → Env → World → Prop} {n : Nat} {rest : List Oper} {env : Env} {w : World} {T : Tab}
  {d:Option Nat} {ty:Nat} {pos:String} {aft:Array Edge} {g:Option (Nat × Bool)}
theorem append_0 {t e:Nat} (ht:P.underlying t=some (.slice e)) {i:TypeInfo} (hi:P.info? e=some i) {size:Nat} {v y:Value} {k:Nat} {xs ys:List Value} {G Gy:List Nat} (hO:SlV w e size v k xs G) (hY:SlV w e size y 0 ys Gy):(Builtin.append_ #[t,t] ty #[v,y]).run P w = .ok v w:=by
  rcases hY with ⟨rfl,-⟩ | ⟨b,c,cur,rfl,-⟩ <;> rcases hO with ⟨rfl,-⟩ | ⟨b',c',cur',rfl,-,hn,-⟩
  · simp [Builtin.append_,run_underlying ht,sizeOf,typeInfo,hi,Builtin.lenOf,Builtin.firstCells]
  · simp [Builtin.append_,run_underlying ht,sizeOf,typeInfo,hi,Builtin.lenOf,Builtin.firstCells,hn,storeCells]
  · simp [Builtin.append_,run_underlying ht,sizeOf,typeInfo,hi,Builtin.lenOf,Builtin.firstCells,loadCells,loadCellsFrom,Result.andThen]
  · simp [Builtin.append_,run_underlying ht,sizeOf,typeInfo,hi,Builtin.lenOf,Builtin.firstCells,loadCells,loadCellsFrom,Result.andThen,hn,storeCells]
theorem xs_appendL (hT:TabOk P T) {t e size bytes:Nat} {zs:List Value} {x y:Operand} {v u:Value} {k c:Nat} {xs ys:List Value} {G Gy:List Nat} (hw:wantedE ops env g=true) (hsl:look t T.sls=some (e,size,bytes)) (hz:look e T.zs=some zs) (hzl:Nat.beq zs.length size=true)
    (hx:ev env x=v) (hy:ev env y=u) (h1:∀ u∈ys,u.oneCell'=true) (hO:SlV w e size v k xs G) (hY:SlV w e size u c ys Gy)
    (hk:(k+c)*bytes≤140737488355328) (hk':k+c≤9223372036854775807) (kk:∀ v' w',(∃ G',SlV w' e size v' (k+c) (xs ++ ys) G'∧∀ i∈G',i∈G∨w.heap.size≤i)→Only G w w'→XS P ops QE n rest (updO env d v') w') :
    XS P ops QE n (⟨d,.call { callee := .builtin .append,args:=#[x,y],argTypes:=#[t,t] },ty,pos,aft,g⟩ :: rest) env w:=by
  by_cases h0:c=0
  · subst h0
    obtain ⟨hu,i,hi,hs1,hs2⟩:=sl_parts (hT.sl hsl)
    have hr:=append_0 (ty:=ty) hu hi hO hY
    have e:ys=[]:=by
      rcases hY with ⟨_,_,h,_⟩ | ⟨_,_,_,_,_,_,_,h,_⟩
      · exact h
      · exact List.eq_nil_of_length_eq_zero (by rw [h,Nat.zero_mul])
    refine XS.value hw (v:=v) (w':=w) ?_ (kk v w ⟨G,by rw [e,List.append_nil];exact hO,fun i hi => .inl hi⟩ (Only.refl _ _))
    simp [execOp,resolve,Sem.run_bind,invoke,builtin,hx,hy,hr]
  · rcases hY with ⟨_,h,_⟩ | ⟨b,cap,cur,rfl,hG,hc,hcl,hl,ht,hb⟩
    · exact absurd h h0
    · refine xs_appendW (c:=c) (m:=cap) (a:=⟨b,0,none⟩) hT hw hsl hz hzl hx hy hl (by omega) (fun j u hj=>?_) h1 hO hk hk' kk
      have:cur[j]?=some u:=by
        rw [← ht,List.getElem?_take] at hj
        split at hj
        · exact hj
        · cases hj
      exact lit_cells hb j u this
end
end Go.Proofs.YtkbcfknnieggbaaGreatDoorX

namespace Go.Proofs.YtkbcfknnieggbaaGreatDoorX
open Go Go.RowKit
attribute [local irreducible] XS XC XA thenE blockE retE loopE loopS cutB cutN doneE SE
def moveR (r:Rq) (p:Pt):Option Rq:=bif r.right then setR ⟨⟨p,r.i.id,r.i.d⟩,r.left,r.slice,r.asleep⟩ else none
def sliceR (r:Rq) (n:Int):Option Rq:=bif r.right then setR ⟨r.i,r.left,n,r.asleep⟩ else none
theorem rmoved_ret (r:Rq) (p:Pt) (hr:r.In) (hp':p.In) (w0:World):Ret Tryz.prog 119 #[rv r,pv p] w0 fun v w'=>v=rqV (moveR r p)∧Only [] w0 w':=by
  have hs:=St.nil w0
  refine ret_of_xc Tryz.func119 (by kernel_rfl) rfl Tryz.ntmps119 rfl rfl rfl ?_
  repeat' (first|refine vs (k:=?_)|(refine al hs (k:=?_);intro b w hz hs)|(refine bx hs (k:=?_);intro b w hz hs)|refine qRg ?_|refine Nx.h ?_|fail)
  (with_reducible apply xs_call);exact rfl;exact rfl;exact rright_ret r hr _
  unfold moveR
  generalize hq:r.right=q
  cases q
  · rintro v w' ⟨rfl,ho⟩;replace hs:=hs.call0 ho;repeat' (first|refine vs (k:=?_)|(refine stA hs (k:=?_);intro w hs)|refine qRg ?_|refine Nx.h ?_|refine qCt ?_|fail)
    first | refine rt (hq:=?_) | refine rt' (hq:=?_)
    exact ⟨rfl,hs.only0 rfl⟩
  · rintro v w' ⟨rfl,ho⟩;replace hs:=hs.call0 ho;repeat' (first|refine vs (k:=?_)|(refine stA hs (k:=?_);intro w hs)|refine qRg ?_|refine Nx.h ?_|refine qCf ?_|fail)
    (with_reducible apply xs_call);exact rfl;exact rfl;exact rset_ret ⟨⟨p,r.i.id,r.i.d⟩,r.left,r.slice,r.asleep⟩ ⟨⟨hp',hr.1.2⟩,hr.2⟩ _
    rintro v w' ⟨rfl,ho⟩;replace hs:=hs.call0 ho;repeat' (first|refine vs (k:=?_)|(refine stA hs (k:=?_);intro w hs)|refine Nx.h ?_|fail)
    first | refine rt (hq:=?_) | refine rt' (hq:=?_)
    exact ⟨rfl,hs.only0 rfl⟩
theorem rsliced_ret (r:Rq) (n:Int) (hr:r.In) (hn:U64 n) (w0:World):Ret Tryz.prog 121 #[rv r,.int .u64 n] w0 fun v w'=>v=rqV (sliceR r n)∧Only [] w0 w':=by
  have hs:=St.nil w0
  refine ret_of_xc Tryz.func121 (by kernel_rfl) rfl Tryz.ntmps121 rfl rfl rfl ?_
  repeat' (first|refine vs (k:=?_)|(refine al hs (k:=?_);intro b w hz hs)|(refine bx hs (k:=?_);intro b w hz hs)|refine qRg ?_|refine Nx.h ?_|fail)
  (with_reducible apply xs_call);exact rfl;exact rfl;exact rright_ret r hr _
  unfold sliceR
  generalize hq:r.right=q
  cases q
  · rintro v w' ⟨rfl,ho⟩;replace hs:=hs.call0 ho;repeat' (first|refine vs (k:=?_)|(refine stA hs (k:=?_);intro w hs)|refine qRg ?_|refine Nx.h ?_|refine qCt ?_|fail)
    first | refine rt (hq:=?_) | refine rt' (hq:=?_)
    exact ⟨rfl,hs.only0 rfl⟩
  · rintro v w' ⟨rfl,ho⟩;replace hs:=hs.call0 ho;repeat' (first|refine vs (k:=?_)|(refine st hs (k:=?_);intro w hs)|refine qRg ?_|refine Nx.h ?_|refine qCf ?_|fail)
    (with_reducible apply xs_call);exact rfl;exact rfl;exact rset_ret ⟨r.i,r.left,n,r.asleep⟩ ⟨hr.1,hr.2.1,hn⟩ _
    rintro v w' ⟨rfl,ho⟩;replace hs:=hs.call0 ho;repeat' (first|refine vs (k:=?_)|(refine stA hs (k:=?_);intro w hs)|refine Nx.h ?_|fail)
    first | refine rt (hq:=?_) | refine rt' (hq:=?_)
    exact ⟨rfl,hs.only0 rfl⟩
end Go.Proofs.YtkbcfknnieggbaaGreatDoorX

namespace Go.Proofs.YtkbcfknnieggbaaGreatDoorX
open Go Go.RowKit
attribute [local irreducible] XS XC XA thenE blockE retE loopE loopS cutB cutN doneE SE
structure Cs where
  A:As
  run:Int
  carr:Int
abbrev coreO (sb:Nat) (run carr:Int):Obj := .cells #[.pointer (some ⟨sb,0,none⟩),.int .i64 run,.int .i64 (carr / 18446744073709551616),.int .u64 (carr % 18446744073709551616)] 77 (0,0)
def CAt (w:World) (cb:Nat) (c:Cs) (F:List Nat):Prop:=∃ sb Fs,F=cb :: Fs∧w.heap[cb]?=some (coreO sb c.run c.carr)∧SetAt w sb c.A Fs∧InW c.carr∧In64 c.run
theorem coreOk (sb:Nat) (run carr:Int):okS (coreO sb run carr)=true:=by rfl
theorem CAt.nod {w:World} {cb sb:Nat} {r k:Int} {A:As} {Fs:List Nat} (h:w.heap[cb]?=some (coreO sb r k)) (hS:SetAt w sb A Fs):cb∉Fs:=hS.not h (coreOk sb r k)
theorem CAt.keepD {w w':World} {cb:Nat} {c:Cs} {F G:List Nat} (h:CAt w cb c F) (ho:Only G w w') (hd:∀ k∈F,k∉G):CAt w' cb c F:=by
  obtain ⟨sb,Fs,rfl,h1,h2,h3⟩:=h
  exact ⟨sb,Fs,rfl,ho.block h1 (hd cb (by simp)),h2.keepD ho (fun k hk=>hd k (by simp [hk])),h3⟩
theorem CAt.only {w w':World} {cb:Nat} {c:Cs} {F:List Nat} (h:CAt w cb c F) (ho:Only [] w w'):CAt w' cb c F:=h.keepD ho (by simp)
theorem CAt.lt {w:World} {cb:Nat} {c:Cs} {F:List Nat} (h:CAt w cb c F):∀ k∈F,k < w.heap.size:=by
  obtain ⟨sb,Fs,rfl,h1,h2,h3⟩:=h
  intro k hk
  rcases List.mem_cons.1 hk with rfl | hk
  · exact lt_of_block h1
  · exact h2.lt k hk
def okC:Obj→Bool
  | .cells cs ty f=>okS (.cells cs ty f) && !(Nat.beq ty 77)
  | _=>false
theorem CAt.not {w:World} {cb:Nat} {c:Cs} {F:List Nat} (h:CAt w cb c F) {b:Nat} {cs:Array Value} {ty:Nat} {fz:Nat × Nat} (hb:w.heap[b]?=some (.cells cs ty fz)) (ho:okC (.cells cs ty fz)=true):b∉F:=fun hm=>by
  obtain ⟨sb,Fs,rfl,h1,h2,h3⟩:=h
  simp only [okC,Bool.and_eq_true,Bool.not_eq_true'] at ho
  rcases List.mem_cons.1 hm with rfl | hm
  · exact blocks_ne hb h1 (fun e=>by rw [e] at ho;exact absurd ho.2 (by decide)) rfl
  · exact h2.not hb ho.1 hm
theorem CAt.rep {w:World} {cb:Nat} {c:Cs} {F:List Nat} (h:CAt w cb c F):(∃ s,Rep s c.A)∧InW c.carr:=by
  obtain ⟨sb,Fs,rfl,h1,h2,h3⟩:=h
  exact ⟨h2.rep,h3.1⟩
def newC (clock:Int):Cs:=⟨⟨[],clock⟩,0,0⟩
theorem cnew_ret (clock:Int) (hc:U64 clock) (w0:World):Ret Tryz.prog 22 #[.int .u64 clock] w0 fun v w'=>(∃ cb F,v = .pointer (some ⟨cb,0,none⟩)∧CAt w' cb (newC clock) F∧∀ k∈F,w0.heap.size≤k)∧Only [] w0 w':=by
  have hs:=St.nil w0
  refine ret_of_xc Tryz.func22 (by kernel_rfl) rfl Tryz.ntmps22 rfl rfl rfl ?_
  repeat' (first|refine vs (k:=?_)|refine qRg ?_|refine Nx.h ?_|fail)
  (with_reducible apply xs_call);exact rfl;exact rfl;exact anew_ret clock hc _
  rintro v w1 ⟨⟨sb,F,rfl,h1,h2⟩,ho1⟩;replace hs:=hs.call0 ho1
  have hoA:=hs.only0 rfl
  have hz:=hoA.size
  have hl:=h1.lt
  clear hs
  have hs:=St.nil w1
  repeat' (first|refine vs (k:=?_)|(refine bx hs (k:=?_);intro b w hz hs)|refine Nx.h ?_|fail)
  have hb:=hs.new _ List.mem_cons_self rfl
  simp only at hb
  first | refine rt (hq:=?_) | refine rt' (hq:=?_)
  have ho2:=hs.only0 rfl
  exact ⟨⟨_,_,rfl,⟨sb,F,rfl,hs.get At.head,h1.only ho2,inW0,in640⟩,fun k hk=>by
    rcases List.mem_cons.1 hk with rfl | hk
    · omega
    · have:=h2 k hk;omega⟩,hoA.trans ho2⟩
set_option maxHeartbeats 4000000 in
theorem cclone_ret (cb:Nat) (c:Cs) (F:List Nat) (w0:World) (h:CAt w0 cb c F):Ret Tryz.prog 25 #[.pointer (some ⟨cb,0,none⟩)] w0 fun v w'=>(∃ cb' F',v = .pointer (some ⟨cb',0,none⟩)∧CAt w' cb' c F'∧∀ k∈F',w0.heap.size≤k)∧Only [] w0 w':=by
  obtain ⟨sb,Fs,rfl,h1,h2,h3,h4⟩:=h
  have hs:=(St.nil w0).track h1 (by simp)
  refine ret_of_xc Tryz.func25 (by kernel_rfl) rfl Tryz.ntmps25 rfl rfl rfl ?_
  repeat' (first|refine vs (k:=?_)|refine qRg ?_|refine Nx.h ?_|refine qCf ?_|fail)
  refine dr [] hs (k:=?_);intro hX w hs
  refine tk 0 hX (k:=?_)
  refine tk 1 hX (k:=?_)
  refine tk 2 hX (k:=?_)
  refine tk 3 hX (k:=?_)
  refine tk 5 hX (k:=?_)
  refine tk 6 hX (k:=?_)
  refine tk 7 hX (k:=?_)
  refine tk 8 hX (k:=?_)
  refine tk 9 hX (k:=?_)
  refine tk 10 hX (k:=?_)
  refine tk 11 hX (k:=?_)
  refine tk 12 hX (k:=?_)
  refine dt 4 hX (k:=?_)
  have ho:=hs.onlyF [] (by simp [h1]) (by simp [D0])
  (with_reducible apply xs_call);exact rfl;exact rfl;exact aclone_ret sb c.A Fs _ (h2.only ho)
  rintro v w1 ⟨⟨s',Fs',rfl,k3,hF⟩,ho1⟩;replace hs:=hs.call0 ho1
  have n1:=ho.size
  have l3:=k3.lt
  have hoA:=hs.onlyF [] (by simp [h1]) (by simp [D0])
  have kq:=hs.get At.head
  have n3:=hoA.size
  clear hs
  have hs:=(St.nil w1).track kq (by simp)
  repeat' (first|refine Nx.h ?_|fail)
  refine dn (k:=?_)
  refine tk 13 hX (k:=?_)
  refine dt 14 hX (k:=?_)
  repeat' (first|(refine bx hs (k:=?_);intro b w hz hs)|refine Nx.h ?_|fail)
  have n5:=hs.new _ (List.mem_cons_self) rfl
  simp only at n5
  refine dn (k:=?_)
  refine tk 15 hX (k:=?_)
  refine en (k:=?_)
  repeat' (first|refine Nx.h ?_|fail)
  first | refine rt (hq:=?_) | refine rt' (hq:=?_)
  have ho4:=hs.onlyF [] (by simp [kq]) (by simp [D0])
  exact ⟨⟨_,_,rfl,⟨s',Fs',rfl,hs.get At.head,k3.only ho4,h3,h4⟩,fun k hk=>by
    rcases List.mem_cons.1 hk with rfl | hk
    · omega
    · have:=hF k hk;omega⟩,hoA.step ho4 (by simp)⟩
theorem lagof_ret (cb:Nat) (c:Cs) (F:List Nat) (id:Int) (w0:World) (h:CAt w0 cb c F) (hid:In64 id):Ret Tryz.prog 111 #[.pointer (some ⟨cb,0,none⟩),.int .i64 id] w0 fun v w'=>v=wv (lagA c.A id)∧Only [] w0 w':=by
  obtain ⟨sb,Fs,rfl,h1,h2,h3⟩:=h
  obtain ⟨qb,mb,g1,g2⟩:=h2.opn
  have n1:cb≠sb:=blocks_ne h1 g1 (by decide)
  have hs:=((St.nil w0).track g1 (by simp)).track h1 (by simpa using n1)
  refine ret_of_xc Tryz.func111 (by kernel_rfl) rfl Tryz.ntmps111 rfl rfl rfl ?_
  repeat' (first|refine vs (k:=?_)|(refine al hs (k:=?_);intro b w hz hs)|refine qRg ?_|refine Nx.h ?_|fail)
  have ho:=hs.onlyF [] (by simp [h1,g1]) (by simp [D0])
  (with_reducible apply xs_call);exact rfl;exact rfl;exact alag_ret qb c.A id _ (g2.only ho) hid
  rintro v w' ⟨rfl,ho⟩;replace hs:=hs.call0 ho;repeat' (first|refine vs (k:=?_)|(refine stA hs (k:=?_);intro w hs)|(refine al hs (k:=?_);intro b w hz hs)|refine qRg ?_|refine Nx.h ?_|fail)
  first | refine rt (hq:=?_) | refine rt' (hq:=?_)
  exact ⟨rfl,hs.onlyF [] (by simp [h1,g1]) (by simp [D0])⟩
def carryW (x lag:Int):Int:=if InW (x+caF 0 [lag]) then x+caF 0 [lag] else great
theorem caF_in (x:Int) (hx:InW x):InW (caF 0 [x]):=by
  unfold caF caF
  split
  · rename_i h;exact h
  · exact great_in
theorem carryW_in (x lag:Int):InW (carryW x lag):=by
  unfold carryW
  split
  · rename_i h;exact h
  · exact great_in
theorem wat_1 {w:World} {b:Nat} {x:Int} (hb:w.heap[b]?=some (.cells #[.int .i64 (x / 18446744073709551616),.int .u64 (x % 18446744073709551616)] 43 (0,0))):WAt w (.slice (some ⟨b,0,none⟩) 1 1) [x] :=
  ⟨_,1,rfl,fun _=>⟨b,0,_,_,(0,0),rfl,hb,fun i x h=>by
    rcases i with _ | i
    · cases h;exact ⟨rfl,rfl⟩
    · simp at h⟩⟩
theorem csize_min (w0:World):Ret Tryz.prog 169 #[.agg #[.int .i64 (-9223372036854775808),.int .u64 0]] w0 fun v w'=>v=wv great∧Only [] w0 w':=by
  have h:=csize_ret (-170141183460469231731687303715884105728) (by decide) w0
  rw [show wv (-170141183460469231731687303715884105728) = .agg #[.int .i64 (-9223372036854775808),.int .u64 0] by kernel_rfl,show sizeW (-170141183460469231731687303715884105728)=great by decide] at h
  exact h
set_option maxHeartbeats 4000000 in
theorem carry_ret (cb sb:Nat) (run carr lag:Int) (w0:World) (h:w0.heap[cb]?=some (coreO sb run carr)) (hc':InW carr) (hl:InW lag):Ret Tryz.prog 110 #[.pointer (some ⟨cb,0,none⟩),wv lag] w0 fun v w'=>w'.heap[cb]?=some (coreO sb run (carryW carr lag))∧Only [cb] w0 w':=by
  have hs:=(St.nil w0).track h (by simp)
  refine ret_of_xc Tryz.func110 (by kernel_rfl) rfl Tryz.ntmps110 rfl rfl rfl ?_
  repeat' (first|(refine bx hs (k:=?_);intro b w hz hs)|refine qRg ?_|refine Nx.h ?_|fail)
  refine dr [] hs (k:=?_);intro hX w hs
  refine tk 0 hX (k:=?_)
  refine tk 1 hX (k:=?_)
  refine tk 2 hX (k:=?_)
  refine tk 3 hX (k:=?_)
  refine tk 4 hX (k:=?_)
  refine pd0 11 4 hs (k:=?_);intro f X w hp;have hs:=hp.st
  apply xa_pend 5 11 (f:=f) (X:=X) hX hp;exact rfl;exact rfl;(apply makes_alloc tabOk;exact rfl);kernel_rfl;kernel_rfl;kernel_rfl;kernel_rfl;(intro X Y;(repeat (first | exact pgg_base | refine pgg_step ?_ (by exact rfl))));(intro w' hs;first|exact se_hold hs.hold|exact se_hold hs.hold.tail|exact se_done rfl);intro f X w hp;have hs:=hp.st
  refine bsP hp (k:=?_);intro b5 w5 _ hp;replace hs:=hp.st
  repeat' (first|refine Nx.h ?_|fail)
  refine dn (k:=?_)
  apply xa_pend 6 11 (f:=f) (X:=X) hX hp;exact rfl;exact rfl;(apply makes_alloc tabOk;exact rfl);kernel_rfl;kernel_rfl;kernel_rfl;kernel_rfl;(intro X Y;(repeat (first | exact pgg_base | refine pgg_step ?_ (by exact rfl))));(intro w' hs;first|exact se_hold hs.hold|exact se_hold hs.hold.tail|exact se_done rfl);intro f X w hp;have hs:=hp.st
  (with_reducible apply xs_call);exact rfl;exact rfl;exact carried_ret [lag] _ (fun i x e=>by rcases i with _ | i;cases e;exact hl;simp at e) (by simp) _ (wat_1 (hs.get At.head))
  rintro v w' ⟨rfl,ho⟩;replace hp:=hp.only ho;replace hs:=hp.st;repeat' (first|refine Nx.h ?_|fail)
  refine dn (k:=?_)
  have hca:=caF_in lag hl
  have eC:carryW carr lag=if InW (carr+caF 0 [lag]) then carr+caF 0 [lag] else great:=rfl
  generalize caF 0 [lag]=y at *
  apply xa_pend 7 11 (f:=f) (X:=X) hX hp;exact rfl;exact rfl;(apply makes_alloc tabOk;exact rfl);kernel_rfl;kernel_rfl;kernel_rfl;kernel_rfl;(intro X Y;(repeat (first | exact pgg_base | refine pgg_step ?_ (by exact rfl))));(intro w' hs;first|exact se_hold hs.hold|exact se_hold hs.hold.tail|exact se_done rfl);intro f X w hp;have hs:=hp.st
  (with_reducible apply xs_call);exact rfl;exact rfl;exact add_t carr y hc' hca _
  rintro v w' ⟨rfl,ho⟩;replace hp:=hp.only ho;replace hs:=hp.st;repeat' (first|refine Nx.h ?_|fail)
  refine dn (k:=?_)
  refine tk 8 hX (hc:=by cases f <;> kernel_rfl) (k:=?_)
  refine tk 9 hX (hc:=by cases f <;> kernel_rfl) (k:=?_)
  refine tk 10 hX (hc:=by cases f <;> kernel_rfl) (k:=?_)
  apply xa_pendE 11 (f:=f) (X:=X) hX hp;exact rfl;(apply makes_alloc tabOk;exact rfl);kernel_rfl;kernel_rfl;(intro X Y;(repeat (first | exact pgg_base | refine pgg_step ?_ (by exact rfl))));(intro w' hs;first|exact se_hold hs.hold|exact se_hold hs.hold.tail|exact se_done rfl);intro b w hI hs
  refine dt 12 hX (k:=?_)
  repeat' (first|(refine stA hs (k:=?_);intro w hs)|refine Nx.h ?_|fail)
  refine dn (k:=?_)
  refine tk 13 hX (k:=?_)
  refine en (k:=?_)
  by_cases hi:InW (carr+y)
  · rw [if_pos hi] at eC
    rw [eC,decide_eq_true hi]
    rw [show tot (carr+y)=carr+y from if_pos hi] at hs ⊢
    repeat' (first|refine vs (k:=?_)|(refine stA hs (k:=?_);intro w hs)|refine qRg ?_|refine Nx.h ?_|refine qCf ?_|fail)
    first | refine rt' (vs:=[]) (hr:=resOk_nil) (hq:=?_) | refine rt (vs:=[]) (hr:=resOk_nil) (hq:=?_)
    exact ⟨hs.get (At.tail (At.tail (At.tail At.head))),hs.onlyF [cb] (by simp) (by simp [D0])⟩
  · rw [if_neg hi] at eC
    rw [eC,decide_eq_false hi]
    repeat' (first|refine vs (k:=?_)|refine qRg ?_|refine Nx.h ?_|refine qCt ?_|fail)
    (with_reducible apply xs_call);exact rfl;exact rfl;exact csize_min _
    rintro v w' ⟨rfl,ho⟩;replace hs:=hs.call0 ho;repeat' (first|refine vs (k:=?_)|(refine stA hs (k:=?_);intro w hs)|refine qRg ?_|refine Nx.h ?_|fail)
    first | refine rt' (vs:=[]) (hr:=resOk_nil) (hq:=?_) | refine rt (vs:=[]) (hr:=resOk_nil) (hq:=?_)
    exact ⟨hs.get (At.tail (At.tail (At.tail At.head))),hs.onlyF [cb] (by simp) (by simp [D0])⟩
end Go.Proofs.YtkbcfknnieggbaaGreatDoorX
