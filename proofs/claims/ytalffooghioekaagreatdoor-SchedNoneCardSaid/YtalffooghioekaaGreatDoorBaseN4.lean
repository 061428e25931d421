/- A part of the proof: what its functions compute. -/
import Derived.Test.YtalffooghioekaaGreatDoorBaseN3
set_option linter.unusedVariables false
set_option linter.unusedSimpArgs false
set_option maxRecDepth 100000
namespace Go.Proofs.YtalffooghioekaaGreatDoorX
open Go Go.RowKit
attribute [local irreducible] XS XC XA thenE blockE retE loopE loopS cutB cutN doneE SE
structure Has (w0:World) (tb:Nat) (p0:Option Addr) (n0:Int) (fp:List Nat) (t:RB Int) (p:Option Addr) (w:World):Prop where
  tree:∃ fp',TreeAt w t p fp'∧fp'.Nodup∧(∀ k∈fp',k∈fp∨w0.heap.size≤k)∧Only fp w0 w
  head:w.heap[tb]?=some (treeO p0 n0)
theorem Has.only {w0 w w':World} {tb:Nat} {p0:Option Addr} {n0:Int} {fp:List Nat} {t:RB Int} {p:Option Addr} (h:Has w0 tb p0 n0 fp t p w) (ho:Only [] w w'):Has w0 tb p0 n0 fp t p w':=by
  obtain ⟨⟨fp',h1,h2,h3,h4⟩,h5⟩:=h
  exact ⟨⟨fp',h1.keep ho (Nodes.nil w) (fun k _=>by simp),h2,h3,h4.step ho (by simp)⟩,head_keep h5 ho (Nodes.nil w)⟩
theorem Has.next {w0 w w':World} {tb:Nat} {p0:Option Addr} {n0:Int} {fp fp1:List Nat} {t t':RB Int} {p:Option Addr} {v:Value} (h1:TreeAt w t p fp1) (h2:∀ k∈fp1,k∈fp∨w0.heap.size≤k) (h3:Only fp w0 w) (h4:w.heap[tb]?=some (treeO p0 n0)) (k:Turned w fp1 t' v w') :
    ∃ p',v = .pointer p'∧Has w0 tb p0 n0 fp t' p' w':=by
  obtain ⟨p',fp',rfl,k1,k2,k3,k4⟩:=k
  refine ⟨p',rfl,⟨fp',k1,k2,fun i hi=>?_,h3.step k4 h2⟩,head_keep h4 k4 h1.nodes⟩
  have:=h3.size
  rcases k3 i hi with h | h
  · exact h2 i h
  · exact .inr (by omega)
theorem mend1_node (l:RB Int) (x:Int) (r:RB Int) (c:Bool):∃ l' x' r' c',RB.mend1 (.node l x r c) = .node l' x' r' c':=by
  unfold RB.mend1
  cases r with
  | nil=>exact ⟨_,_,_,_,rfl⟩
  | node rl y rr d =>
    cases d <;> cases h:l.red <;> simp only [RB.right_node,RB.left_node,RB.red_node,h,Bool.not_true,Bool.not_false,Bool.and_true,Bool.and_false,Bool.and_self,cond_true,cond_false,RB.toLeft] <;> exact ⟨_,_,_,_,rfl⟩
theorem mend2_node (l:RB Int) (x:Int) (r:RB Int) (c:Bool):∃ l' x' r' c',RB.mend2 (.node l x r c) = .node l' x' r' c':=by
  unfold RB.mend2
  cases l with
  | nil=>exact ⟨_,_,_,_,rfl⟩
  | node rl y rr d =>
    cases d <;> cases h:rl.red <;> simp only [RB.right_node,RB.left_node,RB.red_node,h,Bool.not_true,Bool.not_false,Bool.and_true,Bool.and_false,Bool.and_self,cond_true,cond_false,RB.toRight] <;> exact ⟨_,_,_,_,rfl⟩
set_option maxHeartbeats 2000000 in
theorem mend_ret (tb:Nat) (p0:Option Addr) (n0:Int) (l:RB Int) (x:Int) (r:RB Int) (c:Bool) (p:Option Addr) (fp:List Nat) (w0:World) (hT:w0.heap[tb]?=some (treeO p0 n0)) (h:StaleAt w0 l x r c p fp) (hnd:fp.Nodup) (hlen:(l.list ++ x :: r.list).length≤1000000) :
    Ret Tryz.prog 330 #[.pointer (some ⟨tb,0,none⟩),.pointer p] w0 fun v w'=>Turned w0 fp (RB.mend (.node l x r c)) v w':=by
  have hs:=St.nil w0
  refine ret_of_xc Tryz.func330 (by kernel_rfl) rfl Tryz.ntmps330 rfl rfl rfl ?_
  repeat' (first|refine vs (k:=?_)|refine qRg ?_|refine Nx.h ?_|fail)
  clear hs
  (with_reducible apply xs_call);exact rfl;exact rfl;exact rbSum_ret tb p0 n0 l x r c _ _ _ hT h hnd hlen
  rintro v w1 ⟨hT1,ho1⟩
  have hH:Has w0 tb p0 n0 fp (.node l x r c) p w1:=⟨⟨fp,hT1,hnd,fun k hk => .inl hk,ho1⟩,head_keep hT ho1 h.nodes⟩
  clear hT1 ho1
  refine XS.nil ?_
  refine then_of ?_
  refine xc_seq ?_
  refine xc_seq ?_
  refine xc_cutN (fun _:Unit=>[(0,.pointer (some ⟨tb,0,none⟩)),(1,.pointer p),(4,.pointer none),(20,.bool (r.red && !l.red))]) (fun _ w=>Has w0 tb p0 n0 fp (.node l x r c) p w) ?_ ?_
  · obtain ⟨⟨fp1,⟨b,av,pl,pr,fl,fr,rfl,rfl,hb,hav,hl,hr⟩,hnd1,hsub,ho⟩,hd⟩:=hH
    have hH:Has w0 tb p0 n0 fp (.node l x r c) (some ⟨b,0,none⟩) w1:=⟨⟨_,⟨b,av,pl,pr,fl,fr,rfl,rfl,hb,hav,hl,hr⟩,hnd1,hsub,ho⟩,hd⟩
    have hs:=(St.nil w1).track hb (by simp)
    repeat' (first|refine vs (k:=?_)|refine qRg ?_|fail)
    have ho2:Only [] w1 _:=hs.onlyF [] (by simp [hb]) (by simp [D0])
    (with_reducible apply xs_call);exact rfl;exact rfl;exact isRed_ret r pr fr _ (hr.keep ho2 (Nodes.nil _) (by simp))
    rintro v w' ⟨rfl,ho⟩;replace hs:=hs.call0 ho
    generalize hq:r.red=q
    cases q
    · repeat' (first|refine vs (k:=?_)|refine ps (k:=?_)|refine Nx.h ?_|fail)
      exact cutN_normal () (by (repeat (first | exact agree_nil | (apply agree_cons;exact rfl)))) (hH.only (hs.onlyF [] (by simp [hb]) (by simp [D0])))
    · repeat' (first|refine vs (k:=?_)|fail)
      have ho2:Only [] w1 _:=hs.onlyF [] (by simp [hb]) (by simp [D0])
      (with_reducible apply xs_call);exact rfl;exact rfl;exact isRed_ret l pl fl _ (hl.keep ho2 (Nodes.nil _) (by simp))
      rintro v w' ⟨rfl,ho⟩;replace hs:=hs.call0 ho
      generalize hq2:l.red=q2
      repeat' (first|refine vs (k:=?_)|refine Nx.h ?_|fail)
      exact cutN_normal () (by (repeat (first | exact agree_nil | (apply agree_cons;exact rfl)))) (hH.only (hs.onlyF [] (by simp [hb]) (by simp [D0])))
  clear hH
  rintro _ env w hH
  refine xc_cutN (fun s:Option Addr=>[(0,.pointer (some ⟨tb,0,none⟩)),(1,.pointer s),(4,.pointer none)]) (fun s w=>Has w0 tb p0 n0 fp (RB.mend1 (.node l x r c)) s w) ?_ ?_
  · generalize hq:(r.red && !l.red)=q
    cases q
    · repeat' (first|refine Nx.h ?_|refine qCf ?_|fail)
      refine cutN_normal p (by (repeat (first | exact agree_nil | (apply agree_cons;exact rfl)))) ?_
      unfold RB.mend1
      rw [RB.right_node,RB.left_node,hq]
      exact hH
    · obtain ⟨⟨fp1,h1,h2,h3,h4⟩,h5⟩:=hH
      simp only [Bool.and_eq_true,Bool.not_eq_true'] at hq
      obtain ⟨rl,y,rr,rfl⟩:=RB.red_true hq.1
      have hs:=St.nil w
      repeat' (first|refine vs (k:=?_)|refine qRg ?_|refine qCt ?_|fail)
      (with_reducible apply xs_call);exact rfl;exact rfl;exact toLeft_ret tb p0 n0 l x rl y rr c true _ _ _ h5 h1.stale h2 hlen
      rintro v w' hv
      obtain ⟨p',rfl,hH⟩:=Has.next h1 h3 h4 h5 hv
      have hs:=St.nil w'
      repeat' (first|refine vs (k:=?_)|refine Nx.h ?_|fail)
      refine cutN_normal p' (by (repeat (first | exact agree_nil | (apply agree_cons;exact rfl)))) ?_
      unfold RB.mend1
      rw [RB.right_node,RB.left_node,RB.red_node,hq.2]
      exact hH
  obtain ⟨l1,x1,r1,c1,e1⟩:=mend1_node l x r c
  have hlen1:(l1.list ++ x1 :: r1.list).length≤1000000:=by
    have h1:(RB.mend1 (.node l x r c)).list=l.list ++ x :: r.list:=by
      unfold RB.mend1
      cases (RB.red _ && _) <;> simp only [cond_true,cond_false,RB.list_toLeft,RB.list]
    rw [e1] at h1
    rw [← h1] at hlen
    exact hlen
  rintro p1 env w hH
  rw [e1] at hH
  refine xc_seq ?_
  refine xc_seq ?_
  refine xc_cutN (fun _:Unit=>[(0,.pointer (some ⟨tb,0,none⟩)),(1,.pointer p1),(4,.pointer none),(38,.bool (l1.red && l1.left.red))]) (fun _ w=>Has w0 tb p0 n0 fp (.node l1 x1 r1 c1) p1 w) ?_ ?_
  · obtain ⟨⟨fp1,⟨b,av,pl,pr,fl,fr,rfl,rfl,hb,hav,hl,hr⟩,hnd1,hsub,ho⟩,hd⟩:=hH
    have hH:Has w0 tb p0 n0 fp (.node l1 x1 r1 c1) (some ⟨b,0,none⟩) w:=⟨⟨_,⟨b,av,pl,pr,fl,fr,rfl,rfl,hb,hav,hl,hr⟩,hnd1,hsub,ho⟩,hd⟩
    cases hq:l1.red
    · have hs:=(St.nil w).track hb (by simp)
      repeat' (first|refine vs (k:=?_)|refine qRg ?_|fail)
      have ho2:Only [] w _:=hs.onlyF [] (by simp [hb]) (by simp [D0])
      (with_reducible apply xs_call);exact rfl;exact rfl;exact isRed_ret l1 pl fl _ (hl.keep ho2 (Nodes.nil _) (by simp))
      rintro v w' ⟨rfl,ho⟩;replace hs:=hs.call0 ho
      rw [hq]
      repeat' (first|refine vs (k:=?_)|refine ps (k:=?_)|refine Nx.h ?_|fail)
      exact cutN_normal () (by (repeat (first | exact agree_nil | (apply agree_cons;exact rfl)))) (hH.only (hs.onlyF [] (by simp [hb]) (by simp [D0])))
    · obtain ⟨ll,y,lr,rfl⟩:=RB.red_true hq
      have hl0:=hl
      obtain ⟨u,avu,pll,plr,fll,flr,rfl,rfl,hu,hau,hll,hlr⟩:=hl
      have hub:u≠b:=fun e=>by
        subst e
        simp at hnd1
      have hs:=((St.nil w).track hb (by simp)).track hu (by simpa using hub)
      repeat' (first|refine vs (k:=?_)|refine qRg ?_|fail)
      have ho2:Only [] w _:=hs.onlyF [] (by simp [hb,hu]) (by simp [D0])
      (with_reducible apply xs_call);exact rfl;exact rfl;exact isRed_ret _ _ _ _ (hl0.keep ho2 (Nodes.nil _) (by simp))
      rintro v w' ⟨rfl,ho⟩;replace hs:=hs.call0 ho
      rw [hq]
      repeat' (first|refine vs (k:=?_)|fail)
      have ho2:Only [] w _:=hs.onlyF [] (by simp [hb,hu]) (by simp [D0])
      (with_reducible apply xs_call);exact rfl;exact rfl;exact isRed_ret _ _ _ _ (hll.keep ho2 (Nodes.nil _) (by simp))
      rintro v w' ⟨rfl,ho⟩;replace hs:=hs.call0 ho
      rw [RB.left_node]
      generalize hq2:ll.red=q2
      repeat' (first|refine vs (k:=?_)|refine Nx.h ?_|fail)
      exact cutN_normal () (by (repeat (first | exact agree_nil | (apply agree_cons;exact rfl)))) (hH.only (hs.onlyF [] (by simp [hb,hu]) (by simp [D0])))
  clear hH
  rintro _ env w hH
  refine xc_cutN (fun s:Option Addr=>[(0,.pointer (some ⟨tb,0,none⟩)),(1,.pointer s),(4,.pointer none)]) (fun s w=>Has w0 tb p0 n0 fp (RB.mend2 (.node l1 x1 r1 c1)) s w) ?_ ?_
  · generalize hq:(l1.red && l1.left.red)=q
    cases q
    · repeat' (first|refine Nx.h ?_|refine qCf ?_|fail)
      refine cutN_normal p1 (by (repeat (first | exact agree_nil | (apply agree_cons;exact rfl)))) ?_
      unfold RB.mend2
      rw [RB.left_node,hq]
      exact hH
    · obtain ⟨⟨fp1,h1,h2,h3,h4⟩,h5⟩:=hH
      simp only [Bool.and_eq_true] at hq
      obtain ⟨ll,y,lr,rfl⟩:=RB.red_true hq.1
      have hs:=St.nil w
      repeat' (first|refine vs (k:=?_)|refine qRg ?_|refine qCt ?_|fail)
      (with_reducible apply xs_call);exact rfl;exact rfl;exact toRight_ret tb p0 n0 ll y lr x1 r1 c1 true _ _ _ h5 h1.stale h2 (by simpa [RB.list] using hlen1)
      rintro v w' hv
      obtain ⟨p',rfl,hH⟩:=Has.next h1 h3 h4 h5 hv
      have hs:=St.nil w'
      repeat' (first|refine vs (k:=?_)|refine Nx.h ?_|fail)
      refine cutN_normal p' (by (repeat (first | exact agree_nil | (apply agree_cons;exact rfl)))) ?_
      unfold RB.mend2
      rw [RB.left_node,RB.red_node,hq.2]
      exact hH
  obtain ⟨l2,x2,r2,c2,e2⟩:=mend2_node l1 x1 r1 c1
  rintro p2 env w hH
  rw [e2] at hH
  refine xc_seq ?_
  refine xc_seq ?_
  refine xc_cutN (fun _:Unit=>[(0,.pointer (some ⟨tb,0,none⟩)),(1,.pointer p2),(4,.pointer none),(53,.bool (l2.red && r2.red))]) (fun _ w=>Has w0 tb p0 n0 fp (.node l2 x2 r2 c2) p2 w) ?_ ?_
  · obtain ⟨⟨fp1,⟨b,av,pl,pr,fl,fr,rfl,rfl,hb,hav,hl,hr⟩,hnd1,hsub,ho⟩,hd⟩:=hH
    have hH:Has w0 tb p0 n0 fp (.node l2 x2 r2 c2) (some ⟨b,0,none⟩) w:=⟨⟨_,⟨b,av,pl,pr,fl,fr,rfl,rfl,hb,hav,hl,hr⟩,hnd1,hsub,ho⟩,hd⟩
    have hs:=(St.nil w).track hb (by simp)
    repeat' (first|refine vs (k:=?_)|refine qRg ?_|fail)
    have ho2:Only [] w _:=hs.onlyF [] (by simp [hb]) (by simp [D0])
    (with_reducible apply xs_call);exact rfl;exact rfl;exact isRed_ret l2 pl fl _ (hl.keep ho2 (Nodes.nil _) (by simp))
    rintro v w' ⟨rfl,ho⟩;replace hs:=hs.call0 ho
    generalize hq:l2.red=q
    cases q
    · repeat' (first|refine vs (k:=?_)|refine ps (k:=?_)|refine Nx.h ?_|fail)
      exact cutN_normal () (by (repeat (first | exact agree_nil | (apply agree_cons;exact rfl)))) (hH.only (hs.onlyF [] (by simp [hb]) (by simp [D0])))
    · repeat' (first|refine vs (k:=?_)|fail)
      have ho2:Only [] w _:=hs.onlyF [] (by simp [hb]) (by simp [D0])
      (with_reducible apply xs_call);exact rfl;exact rfl;exact isRed_ret r2 pr fr _ (hr.keep ho2 (Nodes.nil _) (by simp))
      rintro v w' ⟨rfl,ho⟩;replace hs:=hs.call0 ho
      generalize hq2:r2.red=q2
      repeat' (first|refine vs (k:=?_)|refine Nx.h ?_|fail)
      exact cutN_normal () (by (repeat (first | exact agree_nil | (apply agree_cons;exact rfl)))) (hH.only (hs.onlyF [] (by simp [hb]) (by simp [D0])))
  clear hH
  rintro _ env w hH
  refine xc_cutN (fun _:Unit=>[(0,.pointer (some ⟨tb,0,none⟩)),(1,.pointer p2),(4,.pointer none)]) (fun _ w=>Has w0 tb p0 n0 fp (RB.mend3 (.node l2 x2 r2 c2)) p2 w) ?_ ?_
  · generalize hq:(l2.red && r2.red)=q
    cases q
    · repeat' (first|refine Nx.h ?_|refine qCf ?_|fail)
      refine cutN_normal () (by (repeat (first | exact agree_nil | (apply agree_cons;exact rfl)))) ?_
      unfold RB.mend3
      rw [RB.left_node,RB.right_node,hq]
      exact hH
    · obtain ⟨⟨fp1,h1,h2,h3,h4⟩,h5⟩:=hH
      simp only [Bool.and_eq_true] at hq
      obtain ⟨ll,y,lr,rfl⟩:=RB.red_true hq.1
      obtain ⟨rl,z,rr,rfl⟩:=RB.red_true hq.2
      have hs:=St.nil w
      repeat' (first|refine vs (k:=?_)|refine qRg ?_|refine qCt ?_|fail)
      (with_reducible apply xs_call);exact rfl;exact rfl;exact rbFlip_ret ll y lr true x2 rl z rr true c2 p2 fp1 _ h1 h2
      rintro v w' ⟨k1,k2⟩
      have hs:=St.nil w'
      repeat' (first|refine Nx.h ?_|fail)
      refine cutN_normal () (by (repeat (first | exact agree_nil | (apply agree_cons;exact rfl)))) ⟨⟨fp1,k1,h2,h3,h4.step k2 h3⟩,head_keep h5 k2 h1.nodes⟩
  rintro _ env w hH
  have e3:RB.mend3 (.node l2 x2 r2 c2)=RB.mend (.node l x r c):=by rw [← e2,← e1];rfl
  rw [e3] at hH
  have hs:=St.nil w
  obtain ⟨⟨fp1,h1,h2,h3,h4⟩,h5⟩:=hH
  repeat' (first|refine vs (k:=?_)|refine qRg ?_|refine Nx.h ?_|fail)
  first | refine rt (hq:=?_) | refine rt' (hq:=?_)
  exact ⟨_,fp1,rfl,h1,h2,h3,h4.step (hs.only0 rfl) (by simp)⟩
end Go.Proofs.YtalffooghioekaaGreatDoorX

namespace Go.Proofs.YtalffooghioekaaGreatDoorX
open Go Go.RowKit
attribute [local irreducible] XS XC XA thenE blockE retE loopE loopS cutB cutN doneE SE
theorem Turned.up {w0 w2 w3:World} {fp fp2:List Nat} {t:RB Int} {v:Value} (k:Turned w2 fp2 t v w3) (ho:Only fp w0 w2) (hs:∀ k∈fp2,k∈fp∨w0.heap.size≤k):Turned w0 fp t v w3:=by
  obtain ⟨p',fp',rfl,k1,k2,k3,k4⟩:=k
  refine ⟨p',fp',rfl,k1,k2,fun i hi=>?_,ho.step k4 hs⟩
  have:=ho.size
  rcases k3 i hi with h | h
  · exact hs i h
  · exact .inr (by omega)
theorem graftL {w w' w2:World} {b:Nat} {y y2:Int} {av av2:Value} {pl pr p':Option Addr} {c c2:Bool} {fl fr:List Nat} {r l':RB Int} (hb:w.heap[b]?=some (nodeO y av pl pr c)) (hl:Nodes w fl) (hr:TreeAt w r pr fr) (hnd:(b :: (fl ++ fr)).Nodup)
    (k:Turned w fl l' (.pointer p') w') (ho:Only [b] w' w2) (hb2:w2.heap[b]?=some (nodeO y2 av2 p' pr c2)) :
    ∃ fp2,StaleAt w2 l' y2 r c2 (some ⟨b,0,none⟩) fp2∧fp2.Nodup∧(∀ i∈fp2,i∈b :: (fl ++ fr)∨w.heap.size≤i)∧Only (b :: (fl ++ fr)) w w2:=by
  obtain ⟨p,fp',e,k1,k2,k3,k4⟩:=k
  obtain rfl:p'=p:=by injection e
  have hbs:=lt_of_block hb
  have hrs:=hr.nodes.lt
  simp only [List.nodup_cons,List.nodup_append,List.mem_append] at hnd
  obtain ⟨d1,d2,d3,d4⟩:=hnd
  have e1:b∉fp':=fun hm=>by
    rcases k3 b hm with h | h
    · exact d1 (.inl h)
    · omega
  have e2:∀ i∈fr,i∉fl:=fun i hi hm=>d4 i hm i hi rfl
  have hb1:=k4.block hb (fun h=>d1 (.inl h))
  have hN:Nodes w' [b]:=Nodes.cons hb1 (Nodes.nil w')
  refine ⟨b :: (fp' ++ fr),⟨b,av2,p',pr,fp',fr,rfl,rfl,hb2,k1.keep ho hN (fun i hi hm=>?_),(hr.keep k4 hl e2).keep ho hN (fun i hi hm=>?_)⟩,?_,?_,?_⟩
  · obtain rfl:=List.mem_singleton.1 hm;exact e1 hi
  · obtain rfl:=List.mem_singleton.1 hm;exact d1 (.inr hi)
  · simp only [List.nodup_cons,List.nodup_append,List.mem_append]
    refine ⟨fun h=>?_,k2,d3,fun i hi j hj hij=>?_⟩
    · rcases h with h | h
      · exact e1 h
      · exact d1 (.inr h)
    · subst hij
      rcases k3 i hi with h | h
      · exact d4 i h i hj rfl
      · have:=hrs i hj;omega
  · intro i hi
    rcases List.mem_cons.1 hi with rfl | hi
    · exact .inl List.mem_cons_self
    · rcases List.mem_append.1 hi with hi | hi
      · rcases k3 i hi with h | h
        · exact .inl (List.mem_cons_of_mem _ (List.mem_append_left _ h))
        · exact .inr h
      · exact .inl (List.mem_cons_of_mem _ (List.mem_append_right _ hi))
  · exact (k4.weaken (fun i hi=>List.mem_cons_of_mem _ (List.mem_append_left _ hi))).step ho (fun i hi => .inl (by obtain rfl:=List.mem_singleton.1 hi;exact List.mem_cons_self))
theorem graftR {w w' w2:World} {b:Nat} {y y2:Int} {av av2:Value} {pl pr p':Option Addr} {c c2:Bool} {fl fr:List Nat} {l r':RB Int} (hb:w.heap[b]?=some (nodeO y av pl pr c)) (hl:TreeAt w l pl fl) (hr:Nodes w fr) (hnd:(b :: (fl ++ fr)).Nodup)
    (k:Turned w fr r' (.pointer p') w') (ho:Only [b] w' w2) (hb2:w2.heap[b]?=some (nodeO y2 av2 pl p' c2)) :
    ∃ fp2,StaleAt w2 l y2 r' c2 (some ⟨b,0,none⟩) fp2∧fp2.Nodup∧(∀ i∈fp2,i∈b :: (fl ++ fr)∨w.heap.size≤i)∧Only (b :: (fl ++ fr)) w w2:=by
  obtain ⟨p,fp',e,k1,k2,k3,k4⟩:=k
  obtain rfl:p'=p:=by injection e
  have hbs:=lt_of_block hb
  have hls:=hl.nodes.lt
  simp only [List.nodup_cons,List.nodup_append,List.mem_append] at hnd
  obtain ⟨d1,d2,d3,d4⟩:=hnd
  have e1:b∉fp':=fun hm=>by
    rcases k3 b hm with h | h
    · exact d1 (.inr h)
    · omega
  have e2:∀ i∈fl,i∉fr:=fun i hi hm=>d4 i hi i hm rfl
  have hb1:=k4.block hb (fun h=>d1 (.inr h))
  have hN:Nodes w' [b]:=Nodes.cons hb1 (Nodes.nil w')
  refine ⟨b :: (fl ++ fp'),⟨b,av2,pl,p',fl,fp',rfl,rfl,hb2,(hl.keep k4 hr e2).keep ho hN (fun i hi hm=>?_),k1.keep ho hN (fun i hi hm=>?_)⟩,?_,?_,?_⟩
  · obtain rfl:=List.mem_singleton.1 hm;exact d1 (.inl hi)
  · obtain rfl:=List.mem_singleton.1 hm;exact e1 hi
  · simp only [List.nodup_cons,List.nodup_append,List.mem_append]
    refine ⟨fun h=>?_,d2,k2,fun i hi j hj hij=>?_⟩
    · rcases h with h | h
      · exact d1 (.inl h)
      · exact e1 h
    · subst hij
      rcases k3 i hj with h | h
      · exact d4 i hi i h rfl
      · have:=hls i hi;omega
  · intro i hi
    rcases List.mem_cons.1 hi with rfl | hi
    · exact .inl List.mem_cons_self
    · rcases List.mem_append.1 hi with hi | hi
      · exact .inl (List.mem_cons_of_mem _ (List.mem_append_left _ hi))
      · rcases k3 i hi with h | h
        · exact .inl (List.mem_cons_of_mem _ (List.mem_append_right _ h))
        · exact .inr h
  · exact (k4.weaken (fun i hi=>List.mem_cons_of_mem _ (List.mem_append_right _ hi))).step ho (fun i hi => .inl (by obtain rfl:=List.mem_singleton.1 hi;exact List.mem_cons_self))
def ltI (a b:Int):Bool:=decide (a < b)
theorem len_ins (x:Int):∀ t:RB Int,(RB.ins ltI t x).list.length=t.list.length+1
  | .nil=>rfl
  | .node l y r c=>by
    simp only [RB.ins]
    cases ltI x y
    · rw [cond_false,RB.list_mend];simp only [RB.list,List.length_append,List.length_cons,len_ins x r];omega
    · rw [cond_true,RB.list_mend];simp only [RB.list,List.length_append,List.length_cons,len_ins x l];omega
set_option maxHeartbeats 2000000 in
theorem insert_ret (tb:Nat) (p0:Option Addr) (n0:Int) (x:Int):∀ (t:RB Int) (p:Option Addr) (fp:List Nat) (w0:World) (hT:w0.heap[tb]?=some (treeO p0 n0)) (h:TreeAt w0 t p fp) (hnd:fp.Nodup) (hlen:t.list.length+1≤1000000),
    Ret Tryz.prog 323 #[.pointer (some ⟨tb,0,none⟩),.pointer p,.int .i64 x] w0 fun v w'=>Turned w0 fp (RB.ins ltI t x) v w'
  | .nil,p,fp,w0,hT,⟨hp,hf⟩,hnd,hlen=>by
    subst hp hf
    have hs:=(St.nil w0).track hT (by simp)
    refine ret_of_xc Tryz.func323 (by kernel_rfl) rfl Tryz.ntmps323 rfl rfl rfl ?_
    repeat' (first|refine vs (k:=?_)|refine qRg ?_|refine Nx.h ?_|refine qCt ?_|fail)
    (with_reducible apply xs_call);exact rfl;exact rfl;exact one_ret x _
    rintro v w' ⟨h1,ho⟩;replace hs:=hs.call0 ho;obtain ⟨ad1,cp1,rfl,_⟩:=id h1;obtain ⟨R1,hs,h1⟩:=(h1).read hs rfl
    refine vs (k:=?_)
    refine bx hs (k:=?_);intro b w hz hs
    repeat' (first|refine vs (k:=?_)|refine Nx.h ?_|fail)
    first | refine rt (hq:=?_) | refine rt' (hq:=?_)
    have hd:=(h1 _ (fun e he=>hs.ro e (by simp [he])))
    have ho:Only [] w0 _:=hs.onlyF [] (by simp [hT]) (by simp [D0])
    have hnew:=hs.new (b,true) (by simp) rfl
    exact ⟨_,[b],rfl,⟨b,_,none,none,[],[],rfl,rfl,hs.get At.head,hd,⟨rfl,rfl⟩,⟨rfl,rfl⟩⟩,by simp,fun k hk => .inr (by obtain rfl:=List.mem_singleton.1 hk;exact hnew),ho⟩
  | .node l y r c,p,fp,w0,hT,⟨b,av,pl,pr,fl,fr,hp,hf,hb,hav,hl,hr⟩,hnd,hlen=>by
    subst hp hf
    have hbt:=head_ne hT hb
    have hs:=((St.nil w0).track hT (by simp)).track hb (by simpa using hbt)
    simp only [RB.list,List.length_append,List.length_cons] at hlen
    refine ret_of_xc Tryz.func323 (by kernel_rfl) rfl Tryz.ntmps323 rfl rfl rfl ?_
    repeat' (first|refine vs (k:=?_)|refine qRg ?_|refine Nx.h ?_|refine qCf ?_|fail)
    refine dr [] hs (k:=?_);intro hX w hs
    refine tk 0 hX (k:=?_)
    refine tk 1 hX (k:=?_)
    refine tk 2 hX (k:=?_)
    refine tk 3 hX (k:=?_)
    refine tk 4 hX (k:=?_)
    refine tk 5 hX (k:=?_)
    refine tk 6 hX (k:=?_)
    refine tk 7 hX (k:=?_)
    refine tk 8 hX (k:=?_)
    refine dt 9 hX (k:=?_)
    (with_reducible apply xs_call);exact rfl;exact rfl;exact less_ret x y _
    rintro v w' ⟨rfl,ho⟩;replace hs:=hs.call0 ho
    repeat' (first|refine Nx.h ?_|fail)
    refine dn (k:=?_)
    refine tk 10 hX (k:=?_)
    refine en (k:=?_)
    generalize hq:decide (x < y)=q
    cases q
    · have e:RB.ins ltI (.node l y r c) x=RB.mend (.node l y (RB.ins ltI r x) c):=by simp [RB.ins,ltI,hq]
      rw [e]
      repeat' (first|refine vs (k:=?_)|refine qRg ?_|refine Nx.h ?_|refine qCf ?_|fail)
      have ho1:Only [] w0 _:=hs.onlyF [] (by simp [hT,hb]) (by simp [D0])
      have hTw:=head_keep hT ho1 (Nodes.nil _)
      have hlw:=hl.keep ho1 (Nodes.nil _) (by simp)
      have hrw:=hr.keep ho1 (Nodes.nil _) (by simp)
      have hbw:=hs.get At.head
      (with_reducible apply xs_call);exact rfl;exact rfl;exact insert_ret tb p0 n0 x r pr fr _ hTw hrw (by simp only [List.nodup_cons,List.nodup_append] at hnd;exact hnd.2.2.1) (by omega)
      rintro v w' hk
      obtain ⟨p',hv⟩:∃ p',v = .pointer p':=by obtain ⟨p',_,hv,_⟩:=hk;exact ⟨p',hv⟩
      subst hv
      obtain ⟨_,_,_,_,_,_,k4⟩:=id hk
      have hT1:=head_keep hTw k4 hrw.nodes
      have hb1:=k4.block hbw (fun h=>by simp [h] at hnd)
      clear hs
      have hs:=((St.nil w').track hT1 (by simp)).track hb1 (by simpa using hbt)
      repeat' (first|refine vs (k:=?_)|(refine st hs (k:=?_);intro w hs)|refine qRg ?_|refine Nx.h ?_|fail)
      have ho3:Only [b] w' _:=hs.onlyF [b] (by simp [hT1]) (by simp [D0])
      obtain ⟨fp2,s1,s2,s3,s4⟩:=graftR hbw hlw hrw.nodes hnd hk ho3 (hs.get At.head)
      (with_reducible apply xs_call);exact rfl;exact rfl;exact mend_ret tb p0 n0 _ y _ c _ _ _ (head_keep hT1 ho3 (Nodes.cons hb1 (Nodes.nil _))) s1 s2 (by simp only [List.length_append,List.length_cons,len_ins];omega)
      rintro v w3 hm
      have hsz:=ho1.size
      have hm2:=hm.up ((ho1.weaken (G:=b :: (fl ++ fr)) (by simp)).step s4 (fun k hk => .inl hk)) (fun k hk=>by rcases s3 k hk with h | h;exact .inl h;exact .inr (by omega))
      have hs:=St.nil w3
      repeat' (first|refine vs (k:=?_)|refine Nx.h ?_|fail)
      first | refine rt (hq:=?_) | refine rt' (hq:=?_)
      exact hm2
    · have e:RB.ins ltI (.node l y r c) x=RB.mend (.node (RB.ins ltI l x) y r c):=by simp [RB.ins,ltI,hq]
      rw [e]
      repeat' (first|refine vs (k:=?_)|refine qRg ?_|refine Nx.h ?_|refine qCt ?_|fail)
      have ho1:Only [] w0 _:=hs.onlyF [] (by simp [hT,hb]) (by simp [D0])
      have hTw:=head_keep hT ho1 (Nodes.nil _)
      have hlw:=hl.keep ho1 (Nodes.nil _) (by simp)
      have hrw:=hr.keep ho1 (Nodes.nil _) (by simp)
      have hbw:=hs.get At.head
      (with_reducible apply xs_call);exact rfl;exact rfl;exact insert_ret tb p0 n0 x l pl fl _ hTw hlw (by simp only [List.nodup_cons,List.nodup_append] at hnd;exact hnd.2.1) (by omega)
      rintro v w' hk
      obtain ⟨p',hv⟩:∃ p',v = .pointer p':=by obtain ⟨p',_,hv,_⟩:=hk;exact ⟨p',hv⟩
      subst hv
      obtain ⟨_,_,_,_,_,_,k4⟩:=id hk
      have hT1:=head_keep hTw k4 hlw.nodes
      have hb1:=k4.block hbw (fun h=>by simp [h] at hnd)
      clear hs
      have hs:=((St.nil w').track hT1 (by simp)).track hb1 (by simpa using hbt)
      repeat' (first|refine vs (k:=?_)|(refine st hs (k:=?_);intro w hs)|refine qRg ?_|refine Nx.h ?_|fail)
      have ho3:Only [b] w' _:=hs.onlyF [b] (by simp [hT1]) (by simp [D0])
      obtain ⟨fp2,s1,s2,s3,s4⟩:=graftL hbw hlw.nodes hrw hnd hk ho3 (hs.get At.head)
      (with_reducible apply xs_call);exact rfl;exact rfl;exact mend_ret tb p0 n0 _ y _ c _ _ _ (head_keep hT1 ho3 (Nodes.cons hb1 (Nodes.nil _))) s1 s2 (by simp only [List.length_append,List.length_cons,len_ins];omega)
      rintro v w3 hm
      have hsz:=ho1.size
      have hm2:=hm.up ((ho1.weaken (G:=b :: (fl ++ fr)) (by simp)).step s4 (fun k hk => .inl hk)) (fun k hk=>by rcases s3 k hk with h | h;exact .inl h;exact .inr (by omega))
      have hs:=St.nil w3
      repeat' (first|refine vs (k:=?_)|refine Nx.h ?_|fail)
      first | refine rt (hq:=?_) | refine rt' (hq:=?_)
      exact hm2
end Go.Proofs.YtalffooghioekaaGreatDoorX

namespace Go.Proofs.YtalffooghioekaaGreatDoorX
open Go Go.RowKit
attribute [local irreducible] XS XC XA thenE blockE retE loopE loopS cutB cutN doneE SE
def RB.has {α:Type} (lt:α→α→Bool) (x:α):RB α→Bool
  | .nil=>false
  | .node l y r _=>bif lt x y then RB.has lt x l else bif lt y x then RB.has lt x r else true
theorem RB.has_iff {α:Type} {lt:α→α→Bool} {S:α→Prop} (ho:OrdOn lt S) {x:α} (hx:S x):∀ t:RB α,RB.Srt lt t.list→(∀ z∈t.list,S z)→(RB.has lt x t=true↔x∈t.list)
  | .nil,_,_=>by simp [RB.has,RB.list]
  | .node l y r c,hs,hS=>by
    obtain ⟨h1,h2,h3,h4,h5⟩:=RB.srt_node hs
    simp only [RB.list,List.mem_append,List.mem_cons] at hS
    have hl:=RB.has_iff ho hx l h1 fun z hz=>hS z (.inl hz)
    have hr:=RB.has_iff ho hx r h2 fun z hz=>hS z (.inr (.inr hz))
    have hy:=hS y (.inr (.inl rfl))
    simp only [RB.has,RB.list,List.mem_append,List.mem_cons]
    cases hxy:lt x y
    · cases hyx:lt y x
      · simp only [cond_false,true_iff]
        exact .inr (.inl (ho.tri x y hx hy hxy hyx))
      · simp only [cond_false,cond_true,hr]
        constructor
        · exact fun h => .inr (.inr h)
        · rintro (h | rfl | h)
          · have:=RB.asym ho hx hy (h3 x h);rw [hyx] at this;cases this
          · rw [ho.irr _ hx] at hyx;cases hyx
          · exact h
    · simp only [cond_true,hl]
      constructor
      · exact .inl
      · rintro (h | rfl | h)
        · exact h
        · rw [ho.irr _ hx] at hxy;cases hxy
        · have:=RB.asym ho hy hx (h4 x h);rw [hxy] at this;cases this
theorem has_ret (tb:Nat) (p:Option Addr) (n:Int) (t:RB Int) (fp:List Nat) (x:Int) (w0:World) (hT:w0.heap[tb]?=some (treeO p n)) (h:TreeAt w0 t p fp) :
    Ret Tryz.prog 322 #[.pointer (some ⟨tb,0,none⟩),.int .i64 x] w0 fun v w'=>v = .bool (RB.has ltI x t)∧Only [] w0 w':=by
  have hs:=(St.nil w0).track hT (by simp)
  refine ret_of_xc Tryz.func322 (by kernel_rfl) rfl Tryz.ntmps322 rfl rfl rfl ?_
  repeat' (first|refine vs (k:=?_)|refine qRg ?_|refine Nx.h ?_|refine qCf ?_|fail)
  have ho1:Only [] w0 _:=hs.onlyF [] (by simp [hT]) (by simp [D0])
  refine xc_cutB (fun _:Unit=>[]) (fun _ w=>RB.has ltI x t=false∧Only [] w0 w) ?_ ?_
  · refine xc_loopS (fun (s:RB Int × Option Addr)=>[(0,.pointer (some ⟨tb,0,none⟩)),(1,.int .i64 x),(5,.pointer s.2)])
      (fun s w=>RB.has ltI x s.1=RB.has ltI x t∧Only [] w0 w∧∃ fp,TreeAt w0 s.1 s.2 fp)
      (fun s=>s.1.list.length) (t,p) (by (repeat (first | exact agree_nil | (apply agree_cons;exact rfl)))) ⟨rfl,ho1,fp,h⟩ fun s env w ⟨h1,h2,fp2,h3⟩=>?_
    clear hs
    obtain ⟨s,ps⟩:=s
    dsimp only at h1 h3 ⊢
    have hTw:=h2.block hT (by simp)
    cases s with
    | nil =>
      obtain ⟨rfl,rfl⟩:=h3
      have hs:=St.nil w
      repeat' (first|refine vs (k:=?_)|refine qRg ?_|refine Nx.h ?_|refine qCf ?_|fail)
      exact cutB_exit () (by (repeat (first | exact agree_nil | (apply agree_cons;exact rfl)))) ⟨h1.symm,h2.step (hs.only0 rfl) (by simp)⟩
    | node l y r c =>
      obtain ⟨b,av,pl,pr,fl,fr,rfl,rfl,hb,hav,hl,hr⟩:=h3
      have hbw:=h2.block hb (by simp)
      have hbt:=head_ne hT hb
      have hs:=((St.nil w).track hTw (by simp)).track hbw (by simpa using hbt)
      repeat' (first|refine vs (k:=?_)|refine qRg ?_|refine Nx.h ?_|refine qCt ?_|fail)
      refine dr [] hs (k:=?_);intro hX w hs
      refine tk 0 hX (k:=?_)
      refine tk 1 hX (k:=?_)
      refine tk 2 hX (k:=?_)
      refine tk 3 hX (k:=?_)
      refine tk 4 hX (k:=?_)
      refine tk 5 hX (k:=?_)
      refine tk 6 hX (k:=?_)
      refine tk 7 hX (k:=?_)
      refine tk 8 hX (k:=?_)
      refine dt 9 hX (k:=?_)
      (with_reducible apply xs_call);exact rfl;exact rfl;exact less_ret x y _
      rintro v w' ⟨rfl,ho⟩;replace hs:=hs.call0 ho
      repeat' (first|refine Nx.h ?_|fail)
      refine dn (k:=?_)
      refine tk 10 hX (k:=?_)
      refine en (k:=?_)
      generalize hq:decide (x < y)=q
      simp only [RB.has,ltI,hq] at h1
      cases q
      · repeat' (first|refine Nx.h ?_|refine qCf ?_|fail)
        refine dr [] hs (k:=?_);intro hX w hs
        refine tk 0 hX (k:=?_)
        refine tk 1 hX (k:=?_)
        refine tk 2 hX (k:=?_)
        refine tk 3 hX (k:=?_)
        refine tk 4 hX (k:=?_)
        refine tk 5 hX (k:=?_)
        refine tk 6 hX (k:=?_)
        refine tk 7 hX (k:=?_)
        refine tk 8 hX (k:=?_)
        refine dt 9 hX (k:=?_)
        (with_reducible apply xs_call);exact rfl;exact rfl;exact less_ret y x _
        rintro v w' ⟨rfl,ho⟩;replace hs:=hs.call0 ho
        repeat' (first|refine Nx.h ?_|fail)
        refine dn (k:=?_)
        refine tk 10 hX (k:=?_)
        refine en (k:=?_)
        generalize hq2:decide (y < x)=q2
        simp only [hq2,cond_false] at h1
        cases q2
        · repeat' (first|refine vs (k:=?_)|refine qRg ?_|refine Nx.h ?_|refine qCf ?_|fail)
          first | refine rt (hq:=?_) | refine rt' (hq:=?_)
          exact ⟨by rw [← h1];rfl,h2.step (hs.onlyF [] (by simp [hTw,hbw]) (by simp [D0])) (by simp)⟩
        · repeat' (first|refine vs (k:=?_)|refine qRg ?_|refine Nx.h ?_|refine qCt ?_|fail)
          exact loopS_next (r,pr) (by simp only [RB.list,List.length_append,List.length_cons];omega) (by (repeat (first | exact agree_nil | (apply agree_cons;exact rfl)))) ⟨h1,h2.step (hs.onlyF [] (by simp [hTw,hbw]) (by simp [D0])) (by simp),_,hr⟩
      · repeat' (first|refine vs (k:=?_)|refine qRg ?_|refine Nx.h ?_|refine qCt ?_|fail)
        exact loopS_next (l,pl) (by simp only [RB.list,List.length_append,List.length_cons];omega) (by (repeat (first | exact agree_nil | (apply agree_cons;exact rfl)))) ⟨h1,h2.step (hs.onlyF [] (by simp [hTw,hbw]) (by simp [D0])) (by simp),_,hl⟩
  · rintro _ env w ⟨h1,h2⟩
    clear hs
    have hs:=St.nil w
    repeat' (first|refine vs (k:=?_)|refine qRg ?_|refine Nx.h ?_|fail)
    first | refine rt (hq:=?_) | refine rt' (hq:=?_)
    exact ⟨by rw [h1];rfl,h2.step (hs.only0 rfl) (by simp)⟩
theorem mend3_node (l:RB Int) (x:Int) (r:RB Int) (c:Bool):∃ l' x' r' c',RB.mend3 (.node l x r c) = .node l' x' r' c':=by
  unfold RB.mend3
  cases l with
  | nil=>exact ⟨_,_,_,_,rfl⟩
  | node a y b d =>
    cases r with
    | nil=>cases d <;> exact ⟨_,_,_,_,rfl⟩
    | node u z v e=>cases d <;> cases e <;> exact ⟨_,_,_,_,rfl⟩
theorem mend_node (l:RB Int) (x:Int) (r:RB Int) (c:Bool):∃ l' x' r' c',RB.mend (.node l x r c) = .node l' x' r' c':=by
  unfold RB.mend
  obtain ⟨l1,x1,r1,c1,e1⟩:=mend1_node l x r c
  obtain ⟨l2,x2,r2,c2,e2⟩:=mend2_node l1 x1 r1 c1
  rw [e1,e2]
  exact mend3_node l2 x2 r2 c2
theorem ins_node (x:Int) (t:RB Int):∃ l' x' r' c',RB.ins ltI t x = .node l' x' r' c':=by
  cases t with
  | nil=>exact ⟨_,_,_,_,rfl⟩
  | node l y r c =>
    simp only [RB.ins]
    cases ltI x y
    · exact mend_node _ _ _ _
    · exact mend_node _ _ _ _
theorem TreeAt.keep' {w w':World} {F:List Nat} (ho:Only F w w') (hF:∀ b∈F,∀ cs fz,w.heap[b]?≠some (.cells cs 3 fz)):∀ {t:RB Int} {p:Option Addr} {fp:List Nat},TreeAt w t p fp→(∀ b∈fp,b∉F)→TreeAt w' t p fp
  | .nil,p,fp,h,_=>h
  | .node l x r c,p,fp,⟨b,av,pl,pr,fl,fr,h1,h2,h3,h4,h5,h6⟩,hd=>by
    subst h2
    refine ⟨b,av,pl,pr,fl,fr,h1,rfl,ho.block h3 (hd b List.mem_cons_self),?_,TreeAt.keep' ho hF h5 fun k hk=>hd k (List.mem_cons_of_mem _ (List.mem_append_left _ hk)),
      TreeAt.keep' ho hF h6 fun k hk=>hd k (List.mem_cons_of_mem _ (List.mem_append_right _ hk))⟩
    obtain ⟨ad,cap,rfl,hdd⟩:=h4
    refine ⟨ad,cap,rfl,fun hn=>?_⟩
    obtain ⟨bb,off,cs,fz,g1,g2,g3,g4⟩:=hdd hn
    exact ⟨bb,off,cs,fz,g1,g2,ho.block g3 (fun hm=>hF bb hm _ _ g3),g4⟩
theorem tree_keep2 {w w':World} {b tb:Nat} {t:RB Int} {p p0:Option Addr} {n0:Int} {fp:List Nat} {cs:Array Value} {fz:Nat × Nat} (h:TreeAt w t p fp) (ho:Only [b,tb] w w') (hb:w.heap[b]?=some (.cells cs 336 fz)) (hT:w.heap[tb]?=some (treeO p0 n0)) (h1:b∉fp) (h2:tb∉fp):TreeAt w' t p fp:=by
  refine h.keep' ho (fun k hk cs fz e=>?_) (fun k hk hm=>?_)
  · simp only [List.mem_cons,List.not_mem_nil,or_false] at hk
    rcases hk with rfl | rfl
    · rw [hb] at e;cases e
    · rw [hT] at e;cases e
  · simp only [List.mem_cons,List.not_mem_nil,or_false] at hm
    rcases hm with rfl | rfl
    · exact h1 hk
    · exact h2 hk
def Obj6 (w:World) (tb:Nat) (t:RB Int) (F:List Nat):Prop:=∃ p fp,F=tb :: fp∧w.heap[tb]?=some (treeO p t.list.length)∧TreeAt w t p fp∧fp.Nodup
def RB.insert (t:RB Int) (x:Int):RB Int:=bif RB.has ltI x t then t else RB.blacken (RB.ins ltI t x)
set_option maxHeartbeats 1000000 in
theorem rbInsert_ret (tb:Nat) (t:RB Int) (F:List Nat) (x:Int) (w0:World) (h:Obj6 w0 tb t F) (hlen:t.list.length+1≤1000000) :
    Ret Tryz.prog 310 #[.pointer (some ⟨tb,0,none⟩),.int .i64 x] w0 fun v w'=>v = .bool (!RB.has ltI x t)∧∃ F',Obj6 w' tb (RB.insert t x) F'∧(∀ k∈F',k∈F∨w0.heap.size≤k)∧Only F w0 w':=by
  obtain ⟨p,fp,rfl,hT,ht,hnd⟩:=h
  have hs:=(St.nil w0).track hT (by simp)
  refine ret_of_xc Tryz.func310 (by kernel_rfl) rfl Tryz.ntmps310 rfl rfl rfl ?_
  repeat' (first|refine vs (k:=?_)|refine qRg ?_|refine Nx.h ?_|fail)
  have ho1:Only [] w0 _:=hs.onlyF [] (by simp [hT]) (by simp [D0])
  (with_reducible apply xs_call);exact rfl;exact rfl;exact has_ret tb p _ t fp x _ (hs.get At.head) (ht.keep ho1 (Nodes.nil _) (by simp))
  rintro v w' ⟨rfl,ho⟩;replace hs:=hs.call0 ho
  unfold RB.insert
  generalize hq:RB.has ltI x t=q
  cases q
  · repeat' (first|refine vs (k:=?_)|refine qRg ?_|refine Nx.h ?_|refine qCf ?_|fail)
    have ho1:Only [] w0 _:=hs.onlyF [] (by simp [hT]) (by simp [D0])
    have hTw:=hs.get At.head
    (with_reducible apply xs_call);exact rfl;exact rfl;exact insert_ret tb p _ x t p fp _ hTw (ht.keep ho1 (Nodes.nil _) (by simp)) hnd hlen
    rintro v w1 ⟨p',fp',rfl,k1,k2,k3,k4⟩
    have hT1:=head_keep hTw k4 (ht.keep ho1 (Nodes.nil _) (by simp)).nodes
    obtain ⟨l',y,r',c,e⟩:=ins_node x t
    have hl':=len_ins x t
    rw [e] at k1 hl' ⊢
    obtain ⟨b,av,pl,pr,fl,fr,rfl,rfl,hb,hav,hl,hr⟩:=k1
    have hbt:=head_ne hT1 hb
    clear hs
    have hs:=((St.nil w1).track hT1 (by simp)).track hb (by simpa using hbt)
    repeat' (first|refine vs (k:=?_)|(refine st hs (k:=?_);intro w hs)|refine qRg ?_|refine Nx.h ?_|fail)
    have en:IntKind.i64.wrap ((t.list.length:Nat)+1)=((l'.list ++ y :: r'.list).length:Nat):=by
      have h1:(l'.list ++ y :: r'.list).length=t.list.length+1:=hl'
      rw [h1]
      exact i64_small (by omega) (by omega)
    rw [en] at hs
    first | refine rt (hq:=?_) | refine rt' (hq:=?_)
    have ho3:Only [b,tb] w1 _:=hs.onlyF [b,tb] (by simp) (by simp [D0])
    have hsz:=ho1.size
    have hbn:b∉fl∧b∉fr:=by
      simp only [List.nodup_cons,List.mem_append,not_or] at k2
      exact k2.1
    have htn:tb∉fl∧tb∉fr:=⟨(fun h=>by obtain ⟨_,_,h⟩:=hl.nodes tb h;rw [hT1] at h;cases h),(fun h=>by obtain ⟨_,_,h⟩:=hr.nodes tb h;rw [hT1] at h;cases h)⟩
    have h2:=hs.get At.head
    have h3:=hs.get (At.tail At.head)
    have o1:Only (tb :: fp) w0 w1:=(ho1.weaken (by simp)).step k4 (fun k hk => .inl (List.mem_cons_of_mem _ hk))
    refine ⟨rfl,tb :: (b :: (fl ++ fr)),⟨_,_,rfl,h3,⟨b,av,pl,pr,fl,fr,rfl,rfl,h2,?_,?_,?_⟩,k2⟩,?_,?_⟩
    · obtain ⟨ad,cap,rfl,hd⟩:=hav
      refine ⟨ad,cap,rfl,fun hn=>?_⟩
      obtain ⟨bb,off,cs,fz,g1,g2,g3,g4⟩:=hd hn
      refine ⟨bb,off,cs,fz,g1,g2,ho3.block g3 (fun hm=>?_),g4⟩
      simp only [List.mem_cons,List.not_mem_nil,or_false] at hm
      rcases hm with rfl | rfl
      · rw [hb] at g3;cases g3
      · rw [hT1] at g3;cases g3
    · exact tree_keep2 hl ho3 hb hT1 hbn.1 htn.1
    · exact tree_keep2 hr ho3 hb hT1 hbn.2 htn.2
    · intro k hk
      rcases List.mem_cons.1 hk with rfl | hk
      · exact .inl List.mem_cons_self
      · rcases k3 k hk with h | h
        · exact .inl (List.mem_cons_of_mem _ h)
        · exact .inr (by omega)
    · refine o1.step ho3 (fun k hk=>?_)
      simp only [List.mem_cons,List.not_mem_nil,or_false] at hk
      rcases hk with rfl | rfl
      · rcases k3 k List.mem_cons_self with h | h
        · exact .inl (List.mem_cons_of_mem _ h)
        · exact .inr (by omega)
      · exact .inl List.mem_cons_self
  · repeat' (first|refine vs (k:=?_)|refine qRg ?_|refine Nx.h ?_|refine qCt ?_|fail)
    first | refine rt (hq:=?_) | refine rt' (hq:=?_)
    have ho1:Only [] w0 _:=hs.onlyF [] (by simp [hT]) (by simp [D0])
    exact ⟨rfl,_,⟨p,fp,rfl,hs.get At.head,ht.keep ho1 (Nodes.nil _) (by simp),hnd⟩,fun k hk => .inl hk,ho1.weaken (by simp)⟩
end Go.Proofs.YtalffooghioekaaGreatDoorX

namespace Go.Proofs.YtalffooghioekaaGreatDoorX
open Go Go.RowKit
attribute [local irreducible] XS XC XA thenE blockE retE loopE loopS cutB cutN doneE SE
def places (l:List It):List Pt:=l.map It.p
def bothPs (l:List It):List Pt:=l.flatMap fun a=>[a.p,a.d]
def spr (base:Int) (l:List It):Int:=(maxL (sinces base (bothPs l)) - minL (sinces base (places l))) % 18446744073709551616
def flatP (ps:List Pt):List Value:=(ps.map Pt.cells).flatten
theorem flatP_app (a b:List Pt):flatP (a ++ b)=flatP a ++ flatP b:=by simp [flatP]
def Two (w0 w:World) (v1 v2:Value) (a b:List Pt):Prop:=∃ G1 G2,SlV w 62 3 v1 a.length (flatP a) G1∧SlV w 62 3 v2 b.length (flatP b) G2∧(∀ k∈G1,w0.heap.size≤k∧k∉G2)∧(∀ k∈G2,w0.heap.size≤k)
theorem flatP_len (a:List Pt):∀ x∈a.map Pt.cells,x.length=3:=fun x hx=>by obtain ⟨p,_,rfl⟩:=List.mem_map.1 hx;rfl
theorem both_len:∀ l:List It,(bothPs l).length=2*l.length
  | []=>rfl
  | a :: l=>by have:=both_len l;simp only [bothPs,List.flatMap_cons,List.length_append,List.length_cons,List.length_nil] at *;omega
set_option maxHeartbeats 2000000 in
theorem spread_ret (base:Int) (l:List It) (sl:Value) (hm:l.length≤1000000) (w0:World) (hP:ItsAt w0 sl l) :
    Ret Tryz.prog 238 #[.int .u64 base,sl] w0 fun v w'=>v = .int .u64 (spr base l)∧Only [] w0 w':=by
  obtain ⟨ad,cap,rfl,hD⟩:=hP
  rw [List.length_map] at *
  have hs:=St.nil w0
  refine ret_of_xc Tryz.func238 (by kernel_rfl) rfl Tryz.ntmps238 rfl rfl rfl ?_
  repeat' (first|refine vs (k:=?_)|refine qRg ?_|refine Nx.h ?_|fail)
  refine xc_cutB (fun (s:Value × Value)=>[(0,.int .u64 base),(5,s.1),(6,s.2)]) (fun s w=>Only [] w0 w∧Two w0 w s.1 s.2 (places l) (bothPs l)) ?_ ?_
  · refine xc_loopS (fun (s:Nat × Value × Value)=>[(0,.int .u64 base),(5,s.2.1),(6,s.2.2),(13,.slice ad l.length cap),(14,.int .i64 (l.length:Nat)),(15,.int .i64 (s.1:Nat))])
      (fun s w=>s.1≤l.length∧Only [] w0 w∧Two w0 w s.2.1 s.2.2 (places (l.take s.1)) (bothPs (l.take s.1))) (fun s=>l.length - s.1) (0,.slice none 0 0,.slice none 0 0) (by (repeat (first | exact agree_nil | (apply agree_cons;exact rfl)))) ⟨Nat.zero_le _,hs.only0 rfl,[],[],.inl ⟨rfl,rfl,rfl,rfl⟩,.inl ⟨rfl,rfl,rfl,rfl⟩,by simp,by simp⟩ fun s env wl ⟨hi,ho0,hT⟩=>?_
    obtain ⟨i,v5,v6⟩:=s
    simp only at hi hT
    clear hs
    have hs:=St.nil wl
    repeat' (first|refine vs (k:=?_)|refine qRg ?_|refine Nx.h ?_|(refine xc_if rfl (fun hc=>?_) (fun hc=>?_))|fail)
    · have hlt:i < l.length:=by omega
      obtain ⟨b,off,cs,fz,rfl,_,hb,hcs⟩:=hD (fun h=>by simp at h;subst h;cases hlt)
      have hpk:=hcs i (It.cells l[i]) (by rw [List.getElem?_map,List.getElem?_eq_getElem hlt];rfl)
      have ei:=nx64 (m:=l.length) hlt (by omega)
      have e1:places (l.take (i+1))=places (l.take i) ++ [l[i].p]:=by rw [take_next hlt];unfold places;rw [List.map_append];rfl
      have e2:bothPs (l.take (i+1))=bothPs (l.take i) ++ [l[i].p,l[i].d]:=by rw [take_next hlt];unfold bothPs;rw [List.flatMap_append];rfl
      have n1:(places (l.take i)).length=i:=by simp [places];omega
      have n2:(bothPs (l.take i)).length=2*i:=by rw [both_len];simp;omega
      generalize l[i]=q at *
      generalize places (l.take i)=A at *
      generalize bothPs (l.take i)=B at *
      refine ix (h0:=(by omega)) (h1:=(by omega)) (k:=?_)
      refine lhK (ho0.block hb (by simp)) hpk (k:=?_)
      refine al hs (k:=?_);intro b8 w8 hz hs
      repeat' (first|(refine stA hs (k:=?_);intro w hs)|refine Nx.h ?_|fail)
      obtain ⟨G1,G2,h1,h2,hd,hn⟩:=hT
      have hl1:=h1.lt
      have hl2:=h2.lt
      refine dr [] hs (k:=?_);intro hX w hs
      refine tk 0 hX (k:=?_)
      refine tk 1 hX (k:=?_)
      refine tk 2 hX (k:=?_)
      refine tk 5 hX (k:=?_)
      refine tk 6 hX (k:=?_)
      refine tk 7 hX (k:=?_)
      refine tk 8 hX (k:=?_)
      refine tk 9 hX (k:=?_)
      refine pd0S 10 29 (q.p.cells ++ q.d.cells) hs (k:=?_);intro f X w hp;have hs:=hp.st
      apply xa_pend 3 10 (f:=f) (X:=X) hX hp;exact rfl;exact rfl;(first | (apply makes_alloc tabOk;exact rfl) | (apply makes_slice tabOk;exact rfl;exact rfl;exact rfl;exact rfl;exact rfl;(intro X;((repeat (first | exact Bld.nil | (apply Bld.one;exact rfl;(conv=>lhs;whnf);exact rfl;(repeat (first | exact PutL.nil | apply PutL.skip | apply PutL.cons))) | (apply Bld.agg;exact rfl;exact rfl;exact rfl;(repeat (first | exact PutL.nil | apply PutL.skip | apply PutL.cons)))))))));kernel_rfl;kernel_rfl;kernel_rfl;kernel_rfl;(intro X Y;(repeat (first | exact pgg_base | refine pgg_step ?_ (by exact rfl))));(intro w' hs;first|exact se_hold hs.hold|exact se_hold hs.hold.tail|exact se_done rfl);intro f X w hp;have hs:=hp.st
      refine bsP hp (k:=?_);intro b3 w3 _ hp;replace hs:=hp.st
      repeat' (first|refine Nx.h ?_|fail)
      refine dn (k:=?_)
      apply xa_pend 4 10 (f:=f) (X:=X) hX hp;exact rfl;exact rfl;(first | (apply makes_alloc tabOk;exact rfl) | (apply makes_slice tabOk;exact rfl;exact rfl;exact rfl;exact rfl;exact rfl;(intro X;((repeat (first | exact Bld.nil | (apply Bld.one;exact rfl;(conv=>lhs;whnf);exact rfl;(repeat (first | exact PutL.nil | apply PutL.skip | apply PutL.cons))) | (apply Bld.agg;exact rfl;exact rfl;exact rfl;(repeat (first | exact PutL.nil | apply PutL.skip | apply PutL.cons)))))))));kernel_rfl;kernel_rfl;kernel_rfl;kernel_rfl;(intro X Y;(repeat (first | exact pgg_base | refine pgg_step ?_ (by exact rfl))));(intro w' hs;first|exact se_hold hs.hold|exact se_hold hs.hold.tail|exact se_done rfl);intro f X w hp;have hs:=hp.st
      have hb3:=hs.get At.head
      have k1:=h1.keep hs.only (by simp [olds,D0])
      refine xs_appendW tabOk rfl rfl rfl rfl rfl rfl rfl (by decide) (lit_cells (news:=q.p.cells) hb3) (by simp [Value.oneCell']) k1 (by omega) (by omega) ?_
      intro v5' w4 ⟨G1',h3,hG1'⟩ ho4
      have hz3:=hs.size
      have hp:=hp.callN ho4 hl1 rfl rfl (J:=fun w=>SlV w 62 3 v5' (A.length+1) (flatP A ++ q.p.cells) G1') h3 (fun _ _ ho h=>h.keep ho (by simp))
      replace hs:=hp.st
      repeat' (first|refine Nx.h ?_|fail)
      refine dn (k:=?_)
      apply xa_pendE 10 (f:=f) (X:=X) hX hp;exact rfl;(first | (apply makes_alloc tabOk;exact rfl) | (apply makes_slice tabOk;exact rfl;exact rfl;exact rfl;exact rfl;exact rfl;(intro X;((repeat (first | exact Bld.nil | (apply Bld.one;exact rfl;(conv=>lhs;whnf);exact rfl;(repeat (first | exact PutL.nil | apply PutL.skip | apply PutL.cons))) | (apply Bld.agg;exact rfl;exact rfl;exact rfl;(repeat (first | exact PutL.nil | apply PutL.skip | apply PutL.cons)))))))));kernel_rfl;kernel_rfl;(intro X Y;(repeat (first | exact pgg_base | refine pgg_step ?_ (by exact rfl))));(intro w' hs;first|exact se_hold hs.hold|exact se_hold hs.hold.tail|exact se_done rfl);intro b w hI hs
      refine dt 11 hX (k:=?_)
      have hb10:=hs.get At.head
      have k2:=h2.keep hs.only (fun k hk hm=>by simp [olds,D0] at hm;exact (hd k hm).2 hk)
      refine xs_appendW tabOk rfl rfl rfl rfl rfl rfl rfl (by decide) (lit_cells (news:=q.p.cells ++ q.d.cells) hb10) (by simp [Value.oneCell']) k2 (by omega) (by omega) ?_
      intro v6' w6 ⟨G2',h4,hG2'⟩ ho6
      have hz5:=hs.size
      have h5:=hI.keep ho6 (fun k hk hm=>by
        rcases hG1' k hk with h | h
        · exact (hd k h).2 hm
        · have:=hl2 k hm;omega)
      have hlt5:=hI.lt
      replace hs:=hs.callN ho6 hl2 rfl rfl
      repeat' (first|refine Nx.h ?_|fail)
      refine dn (k:=?_)
      refine tk 12 hX (k:=?_)
      refine tk 13 hX (k:=?_)
      refine en (k:=?_)
      repeat' (first|refine vs (k:=?_)|refine qRg ?_|refine Nx.h ?_|fail)
      have hz6:=hs.size
      have hz0:=ho0.size
      refine loopS_next (i+1,v5',v6') (by show l.length - (i+1) < l.length - i;omega) (by (repeat (first | exact agree_nil | (apply agree_cons;first | exact rfl | exact congrArg (Value.int .i64) ei)))) ⟨by show i+1≤l.length;omega,ho0.step (hs.forgetNew.forgetNew.forgetNew.only) ?_,G1',G2',?_,?_,?_,?_⟩
      · intro k hk
        simp [olds,D0] at hk
        rcases hk with hk | hk
        · exact .inr (hn k hk)
        · exact .inr (hd k hk).1
      · simp only [e1];rw [flatP_app,List.length_append];exact h5
      · simp only [e2];rw [flatP_app,List.length_append];exact h4
      · intro k hk
        have h7:=hlt5 k hk
        refine ⟨?_,fun hm=>?_⟩
        · rcases hG1' k hk with h | h
          · exact (hd k h).1
          · omega
        · rcases hG2' k hm with h | h
          · rcases hG1' k hk with h' | h'
            · exact (hd k h').2 h
            · have:=hl2 k h;omega
          · omega
      · intro k hk
        rcases hG2' k hk with h | h
        · exact hn k h
        · omega
    · have hc':¬ ((i:Int) < l.length):=hc
      have e:i=l.length:=by omega
      subst e
      rw [List.take_length] at hT
      exact cutB_exit (v5,v6) (by (repeat (first | exact agree_nil | (apply agree_cons;exact rfl)))) ⟨ho0,hT⟩
  · rintro ⟨v5,v6⟩ env w ⟨ho0,G1,G2,h1,h2,hd,hn⟩
    simp only at h1 h2
    clear hs
    have hs:=St.nil w
    have nP:(places l).length≤1000000:=by simp [places];exact hm
    have nB:(bothPs l).length≤2000000:=by rw [both_len];omega
    have l1:=h1.ls rfl (by simp) (flatP_len _)
    have l2:=h2.ls rfl (by simp) (flatP_len _)
    have m1:=minL_in (l:=sinces base (places l)) (fun d hd=>by obtain ⟨p,_,rfl⟩:=List.mem_map.1 hd;exact sn_in _ _)
    have m2:=maxL_in (l:=sinces base (bothPs l)) (fun d hd=>by obtain ⟨p,_,rfl⟩:=List.mem_map.1 hd;exact sn_in _ _)
    repeat' (first|refine vs (k:=?_)|refine qRg ?_|refine Nx.h ?_|fail)
    (with_reducible apply xs_call);exact rfl;exact rfl;exact floors_ret base (places l) v5 (by omega) _ l1
    rintro v w' ⟨rfl,ho⟩;replace hs:=hs.call0 ho;repeat' (first|refine vs (k:=?_)|refine qRg ?_|refine Nx.h ?_|fail)
    (with_reducible apply xs_call);exact rfl;exact rfl;exact floors_ret base (bothPs l) v6 (by omega) _ (l2.only (hs.only0 rfl))
    rintro v w' ⟨rfl,ho⟩;replace hs:=hs.call0 ho;repeat' (first|refine vs (k:=?_)|refine qRg ?_|refine Nx.h ?_|fail)
    first | refine rt (hq:=?_) | refine rt' (hq:=?_)
    refine ⟨?_,ho0.trans (hs.only0 rfl)⟩
    refine int_cong ?_
    unfold spr
    obtain ⟨a1,a2⟩:=m1
    obtain ⟨a3,a4⟩:=m2
    simp only [wrap_u64]
    omega
end Go.Proofs.YtalffooghioekaaGreatDoorX

namespace Go.Proofs.YtalffooghioekaaGreatDoorX
open Go Go.RowKit
def ShapeAt (w:World):RB Int→Option Addr→Prop
  | .nil,p=>p=none
  | .node l x r c,p=>∃ b av pl pr,p=some ⟨b,0,none⟩∧w.heap[b]?=some (nodeO x av pl pr c)∧ShapeAt w l pl∧ShapeAt w r pr
theorem TreeAt.shape {w:World}:∀ {t:RB Int} {p:Option Addr} {fp:List Nat},TreeAt w t p fp→ShapeAt w t p
  | .nil,_,_,⟨h,_⟩=>h
  | .node l x r c,_,_,⟨b,av,pl,pr,fl,fr,h1,h2,h3,h4,h5,h6⟩=>⟨b,av,pl,pr,h1,h3,h5.shape,h6.shape⟩
def NoNode (w:World) (F:List Nat):Prop:=∀ b∈F,∀ cs fz,w.heap[b]?≠some (.cells cs 336 fz)
theorem ShapeAt.keep {w w':World} {F:List Nat} (ho:Only F w w') (hF:NoNode w F):∀ {t:RB Int} {p:Option Addr},ShapeAt w t p→ShapeAt w' t p
  | .nil,_,h=>h
  | .node l x r c,_,⟨b,av,pl,pr,h1,h3,h5,h6⟩=>⟨b,av,pl,pr,h1,ho.block h3 (fun hm=>hF b hm _ _ h3),ShapeAt.keep ho hF h5,ShapeAt.keep ho hF h6⟩
theorem SlV.noNode {w:World} {v:Value} {n:Nat} {xs:List Value} {G:List Nat} (h:SlV w 3 1 v n xs G):NoNode w G:=by
  rcases h with ⟨_,_,_,rfl⟩ | ⟨g,cap,cur,_,rfl,_,_,_,_,hg⟩
  · intro b hb;cases hb
  · intro b hb cs fz e
    obtain rfl:=List.mem_singleton.1 hb
    rw [hg] at e;cases e
theorem SlV.dat {w:World} {v:Value} {xs:List Int} {G:List Nat} (h:SlV w 3 1 v xs.length (ints xs) G):DAt w v xs:=by
  rcases h with ⟨rfl,h2,h3,h4⟩ | ⟨g,cap,cur,rfl,rfl,h3,h4,h5,h6,hg⟩
  · obtain rfl:=List.length_eq_zero_iff.1 h2
    exact ⟨none,0,rfl,fun h=>absurd rfl h⟩
  · refine ⟨_,cap,rfl,fun _=>⟨g,0,cur,(0,0),rfl,h3,hg,fun i d hi=>?_⟩⟩
    have h7:(ints xs)[i]?=some (.int .i64 d):=by simp [ints,hi]
    rw [← h6,List.getElem?_take] at h7
    rw [Nat.zero_add]
    split at h7
    · exact h7
    · cases h7
end Go.Proofs.YtalffooghioekaaGreatDoorX

namespace Go.Proofs.YtalffooghioekaaGreatDoorX
open Go Go.RowKit
attribute [local irreducible] XS XC XA thenE blockE retE loopE loopS cutB cutN doneE SE
theorem RB.depth_le {α:Type}:∀ t:RB α,t.depth≤t.list.length
  | .nil=>Nat.le_refl _
  | .node l x r c=>by
    have:=RB.depth_le l
    have:=RB.depth_le r
    simp only [RB.depth,RB.list,List.length_append,List.length_cons]
    omega
theorem depth_ret:∀ (t:RB Int) (p:Option Addr) (w0:World) (h:ShapeAt w0 t p) (hlen:t.list.length≤1000000),Ret Tryz.prog 325 #[.pointer p] w0 fun v w'=>v = .int .i64 (t.depth:Nat)∧Only [] w0 w'
  | .nil,p,w0,h,hlen=>by
    have hp:p=none:=h
    subst hp
    have hs:=St.nil w0
    refine ret_of_xc Tryz.func325 (by kernel_rfl) rfl Tryz.ntmps325 rfl rfl rfl ?_
    repeat' (first|refine vs (k:=?_)|refine qRg ?_|refine Nx.h ?_|refine qCt ?_|fail)
    first | refine rt (hq:=?_) | refine rt' (hq:=?_)
    exact ⟨rfl,hs.only0 rfl⟩
  | .node l x r c,p,w0,⟨b,av,pl,pr,hp,hb,hl,hr⟩,hlen=>by
    subst hp
    simp only [RB.list,List.length_append,List.length_cons] at hlen
    have hs:=(St.nil w0).track hb (by simp)
    refine ret_of_xc Tryz.func325 (by kernel_rfl) rfl Tryz.ntmps325 rfl rfl rfl ?_
    repeat' (first|refine vs (k:=?_)|refine qRg ?_|refine Nx.h ?_|refine qCf ?_|fail)
    refine dr [] hs (k:=?_);intro hX w hs
    refine tk 0 hX (k:=?_)
    refine tk 1 hX (k:=?_)
    refine tk 2 hX (k:=?_)
    refine tk 3 hX (k:=?_)
    refine tk 5 hX (k:=?_)
    refine tk 6 hX (k:=?_)
    refine tk 7 hX (k:=?_)
    refine tk 8 hX (k:=?_)
    refine dt 4 hX (k:=?_)
    (with_reducible apply xs_call);exact rfl;exact rfl;exact depth_ret l pl _ (hl.keep (hs.onlyF [] (by simp [hb]) (by simp [D0])) (fun b h=>by cases h)) (by omega)
    rintro v w' ⟨rfl,ho⟩;replace hs:=hs.call0 ho
    repeat' (first|refine Nx.h ?_|fail)
    refine dn (k:=?_)
    refine dt 9 hX (k:=?_)
    (with_reducible apply xs_call);exact rfl;exact rfl;exact depth_ret r pr _ (hr.keep (hs.onlyF [] (by simp [hb]) (by simp [D0])) (fun b h=>by cases h)) (by omega)
    rintro v w' ⟨rfl,ho⟩;replace hs:=hs.call0 ho
    repeat' (first|refine Nx.h ?_|fail)
    refine dn (k:=?_)
    refine tk 10 hX (k:=?_)
    refine tk 11 hX (k:=?_)
    refine tk 12 hX (k:=?_)
    refine en (k:=?_)
    repeat' (first|refine Nx.h ?_|fail)
    first | refine rt (hq:=?_) | refine rt' (hq:=?_)
    refine ⟨?_,hs.onlyF [] (by simp [hb]) (by simp [D0])⟩
    have h1:=RB.depth_le l
    have h2:=RB.depth_le r
    refine congrArg (Value.int .i64) ?_
    have e:(if (r.depth:Int) > (l.depth:Int) then (r.depth:Int) else (l.depth:Int))=((max l.depth r.depth:Nat):Int):=by split <;> omega
    show IntKind.i64.wrap (1+(if (r.depth:Int) > (l.depth:Int) then (r.depth:Int) else (l.depth:Int)))=((1+max l.depth r.depth:Nat):Int)
    rw [e]
    rw [i64_small (by omega) (by omega)]
    omega
theorem rbDepth_ret (tb:Nat) (t:RB Int) (F:List Nat) (w0:World) (h:Obj6 w0 tb t F) (hlen:t.list.length≤1000000) :
    Ret Tryz.prog 312 #[.pointer (some ⟨tb,0,none⟩)] w0 fun v w'=>v = .int .i64 (t.depth:Nat)∧Only [] w0 w':=by
  obtain ⟨p,fp,rfl,hT,ht,hnd⟩:=h
  have hs:=(St.nil w0).track hT (by simp)
  refine ret_of_xc Tryz.func312 (by kernel_rfl) rfl Tryz.ntmps312 rfl rfl rfl ?_
  repeat' (first|refine vs (k:=?_)|refine qRg ?_|refine Nx.h ?_|refine qCf ?_|fail)
  (with_reducible apply xs_call);exact rfl;exact rfl;exact depth_ret t p _ (ht.shape.keep (hs.onlyF [] (by simp [hT]) (by simp [D0])) (fun b h=>by cases h)) hlen
  rintro v w' ⟨rfl,ho⟩;replace hs:=hs.call0 ho;repeat' (first|refine vs (k:=?_)|refine Nx.h ?_|fail)
  first | refine rt (hq:=?_) | refine rt' (hq:=?_)
  exact ⟨rfl,hs.onlyF [] (by simp [hT]) (by simp [D0])⟩
theorem rbNewOf_ret (w0:World):Ret Tryz.prog 318 #[.func (.func 319) #[] #[],.func (.func 320) #[] #[],.func (.func 321) #[] #[]] w0 fun v w'=>∃ tb F,v = .pointer (some ⟨tb,0,none⟩)∧Obj6 w' tb .nil F∧(∀ k∈F,w0.heap.size≤k)∧Only [] w0 w':=by
  have hs:=St.nil w0
  refine ret_of_xc Tryz.func318 (by kernel_rfl) rfl Tryz.ntmps318 rfl rfl rfl ?_
  refine xc_seq ?_
  refine xc_region ?_ ?_;exact rfl
  refine vs (k:=?_)
  refine XS.nil ?_
  refine then_of ?_
  refine xc_seq ?_
  refine xc_region ?_ ?_;exact rfl
  refine vs (k:=?_)
  refine vs (k:=?_)
  refine vs (k:=?_)
  refine vs (k:=?_)
  refine bx hs (k:=?_);intro b w hz hs
  repeat' (first|refine vs (k:=?_)|refine Nx.h ?_|fail)
  first | refine rt (hq:=?_) | refine rt' (hq:=?_)
  have hnew:=hs.new (b,true) (by simp) rfl
  exact ⟨b,[b],rfl,⟨none,[],rfl,hs.get At.head,⟨rfl,rfl⟩,List.nodup_nil⟩,fun k hk=>by obtain rfl:=List.mem_singleton.1 hk;exact hnew,hs.only0 rfl⟩
theorem rbNew_ret (w0:World):Ret Tryz.prog 309 #[] w0 fun v w'=>∃ tb F,v = .pointer (some ⟨tb,0,none⟩)∧Obj6 w' tb .nil F∧(∀ k∈F,w0.heap.size≤k)∧Only [] w0 w':=by
  have hs:=St.nil w0
  refine ret_of_xc Tryz.func309 (by kernel_rfl) rfl Tryz.ntmps309 rfl rfl rfl ?_
  repeat' (first|refine vs (k:=?_)|refine qRg ?_|refine Nx.h ?_|fail)
  (with_reducible apply xs_call);exact rfl;exact rfl;exact rbNewOf_ret _
  rintro v w' ⟨tb,F,rfl,h1,h2,h3⟩
  replace hs:=hs.call0 h3
  repeat' (first|refine vs (k:=?_)|refine Nx.h ?_|fail)
  first | refine rt (hq:=?_) | refine rt' (hq:=?_)
  exact ⟨tb,F,rfl,h1,h2,hs.only0 rfl⟩
end Go.Proofs.YtalffooghioekaaGreatDoorX

namespace Go.Proofs.YtalffooghioekaaGreatDoorX
open Go Go.RowKit
attribute [local irreducible] XS XC XA thenE blockE retE loopE loopS cutB cutN doneE SE
theorem SlV.app {w w':World} {v':Value} {xs:List Int} {x:Int} {G:List Nat} (h:SlV w 3 1 v' (xs.length+1) (ints xs ++ [.int .i64 x]) G):SlV w 3 1 v' (xs ++ [x]).length (ints (xs ++ [x])) G:=by
  rw [List.length_append,← ints_snoc]
  exact h
set_option maxHeartbeats 2000000 in
theorem walk_ret:∀ (t:RB Int) (p:Option Addr) (v0:Value) (xs:List Int) (G:List Nat) (w0:World) (h:ShapeAt w0 t p) (hO:SlV w0 3 1 v0 xs.length (ints xs) G) (hlen:xs.length+t.list.length≤1000000),
    Ret Tryz.prog 324 #[.pointer p,v0] w0 fun v w'=>∃ G',SlV w' 3 1 v (xs ++ t.list).length (ints (xs ++ t.list)) G'∧(∀ k∈G',k∈G∨w0.heap.size≤k)∧Only G w0 w'
  | .nil,p,v0,xs,G,w0,h,hO,hlen=>by
    have hp:p=none:=h
    subst hp
    have hs:=St.nil w0
    refine ret_of_xc Tryz.func324 (by kernel_rfl) rfl Tryz.ntmps324 rfl rfl rfl ?_
    repeat' (first|refine vs (k:=?_)|refine qRg ?_|refine Nx.h ?_|refine qCt ?_|fail)
    first | refine rt (hq:=?_) | refine rt' (hq:=?_)
    have ho:=hs.only0 rfl
    rw [show xs ++ RB.nil.list=xs from List.append_nil xs]
    exact ⟨G,hO.keep ho (by simp),fun k hk => .inl hk,ho.weaken (by simp)⟩
  | .node l x r c,p,v0,xs,G,w0,⟨b,av,pl,pr,hp,hb,hl,hr⟩,hO,hlen=>by
    subst hp
    simp only [RB.list,List.length_append,List.length_cons] at hlen
    have hs:=(St.nil w0).track hb (by simp)
    refine ret_of_xc Tryz.func324 (by kernel_rfl) rfl Tryz.ntmps324 rfl rfl rfl ?_
    repeat' (first|refine vs (k:=?_)|refine qRg ?_|refine Nx.h ?_|refine qCf ?_|fail)
    refine dr [] hs (k:=?_);intro hX w hs
    refine tk 0 hX (k:=?_)
    refine tk 1 hX (k:=?_)
    refine tk 2 hX (k:=?_)
    refine tk 3 hX (k:=?_)
    refine tk 4 hX (k:=?_)
    refine tk 5 hX (k:=?_)
    refine tk 6 hX (k:=?_)
    refine tk 7 hX (k:=?_)
    refine tk 8 hX (k:=?_)
    refine tk 10 hX (k:=?_)
    refine tk 11 hX (k:=?_)
    refine tk 12 hX (k:=?_)
    refine tk 13 hX (k:=?_)
    have fin:∀ (b2:Nat) (w3:World) (v1:Value) (G1:List Nat) (hO1:SlV w3 3 1 v1 (xs ++ l.list).length (ints (xs ++ l.list)) G1) (hG1:∀ k∈G1,k∈G∨w0.heap.size≤k) (ho3:Only G w0 w3) (hb2:w3.heap[b2]?=some (.cells #[.int .i64 x] 3 (0,0))) (v2:Value) (w4:World) (h4:(∃ G',SlV w4 3 1 v2 ((xs ++ l.list).length+1) (ints (xs ++ l.list) ++ [.int .i64 x]) G'∧∀ i∈G',i∈G1∨w3.heap.size≤i)) (ho4:Only G1 w3 w4),
        Only G w0 w4∧∃ G2,SlV w4 3 1 v2 (xs ++ l.list ++ [x]).length (ints (xs ++ l.list ++ [x])) G2∧(∀ k∈G2,k∈G∨w0.heap.size≤k)∧ShapeAt w4 r pr∧w4.heap[b]?=some (nodeO x av pl pr c):=by
      intro b2 w3 v1 G1 hO1 hG1 ho3 hb2 v2 w4 ⟨G2,hO2,hG2⟩ ho4
      have hsz:=ho3.size
      have hn:=hO.noNode
      have hn1:=hO1.noNode
      have hb3:=ho3.block hb (fun hm=>hn b hm _ _ hb)
      refine ⟨ho3.step ho4 hG1,G2,SlV.app (w':=w4) hO2,fun k hk=>?_,((hr.keep ho3 hn).keep ho4 hn1),ho4.block hb3 (fun hm=>hn1 b hm _ _ hb3)⟩
      rcases hG2 k hk with h | h
      · exact hG1 k h
      · exact .inr (by omega)
    have hn:=hO.noNode
    have hbG:b∉G:=fun hm=>hn b hm _ _ hb
    have ho1:Only [] w0 _:=hs.onlyF [] (by simp [hb]) (by simp [D0])
    refine xa_do2 9 14 hX (h1:=?_) (h2:=?_)
    · (with_reducible apply xs_call);exact rfl;exact rfl;exact walk_ret l pl v0 xs G _ (hl.keep ho1 (fun b h=>by cases h)) (hO.keep ho1 (by simp)) (by omega)
      rintro v1 w1 ⟨G1,hO1,hG1,ho2⟩
      have ho3:Only G w0 w1:=(ho1.weaken (by simp)).step ho2 (fun k hk => .inl hk)
      have hsz:=ho1.size
      have hb1:=ho3.block hb hbG
      clear hs
      have hs:=(St.nil w1).track hb1 (by simp)
      repeat' (first|refine Nx.h ?_|fail)
      refine dn (k:=?_)
      refine dt 14 hX (k:=?_)
      refine bs hs (k:=?_);intro b2 w2 hz2 hs
      repeat' (first|refine Nx.h ?_|fail)
      refine dn (k:=?_)
      refine dt 15 hX (k:=?_)
      have hnew:=hs.new (b2,true) (by simp) rfl
      have ho4:Only [] w1 w2:=hs.onlyF [] (by simp [hb1]) (by simp [D0])
      have hO1':=hO1.keep ho4 (by simp)
      have hb2:=hs.get At.head
      have ho5:Only G w0 w2:=ho3.step ho4 (by simp)
      refine xs_appendW tabOk rfl rfl rfl rfl rfl rfl rfl (by decide) (lit_cells (news:=[.int .i64 x]) hb2) (by simp [Value.oneCell']) hO1' (by simp only [List.length_append];omega) (by simp only [List.length_append];omega) ?_
      intro v2 w3 h3 ho6
      obtain ⟨ho7,G2,hO2,hG2,hr2,hb3⟩:=fin b2 w2 v1 G1 hO1' (fun k hk=>by rcases hG1 k hk with h | h;exact .inl h;exact .inr (by omega)) ho5 hb2 v2 w3 h3 ho6
      clear hs
      have hs:=(St.nil w3).track hb3 (by simp)
      repeat' (first|refine Nx.h ?_|fail)
      refine dn (k:=?_)
      refine dt 16 hX (k:=?_)
      (with_reducible apply xs_call);exact rfl;exact rfl;exact walk_ret r pr v2 (xs ++ l.list ++ [x]) G2 _ hr2 hO2 (by simp only [List.length_append,List.length_cons,List.length_nil];omega)
      rintro v3 w4 ⟨G3,hO3,hG3,ho8⟩
      have hb4:=ho8.block hb3 (fun hm=>hO2.noNode b hm _ _ hb3)
      clear hs
      have hs:=(St.nil w4).track hb4 (by simp)
      repeat' (first|refine Nx.h ?_|fail)
      refine dn (k:=?_)
      refine tk 17 hX (k:=?_)
      refine en (k:=?_)
      repeat' (first|refine Nx.h ?_|fail)
      first | refine rt (hq:=?_) | refine rt' (hq:=?_)
      rw [show xs ++ l.list ++ [x] ++ r.list=xs ++ (RB.node l x r c).list by simp [RB.list]] at hO3
      have hsz2:=ho7.size
      have ho9:Only [] w4 _:=hs.onlyF [] (by simp [hb4]) (by simp [D0])
      exact ⟨G3,hO3.keep ho9 (by simp),fun k hk=>by rcases hG3 k hk with h | h;exact hG2 k h;exact .inr (by omega),(ho7.step ho8 hG2).step ho9 (by simp)⟩
    · refine bs hs (k:=?_);intro b2 w2 hz2 hs
      repeat' (first|refine Nx.h ?_|fail)
      refine dn (k:=?_)
      refine dt 9 hX (k:=?_)
      have hnew:=hs.new (b2,true) (by simp) rfl
      have ho4:Only [] w0 w2:=hs.onlyF [] (by simp [hb]) (by simp [D0])
      have hb2:=hs.get At.head
      (with_reducible apply xs_call);exact rfl;exact rfl;exact walk_ret l pl v0 xs G _ (hl.keep ho4 (fun b h=>by cases h)) (hO.keep ho4 (by simp)) (by omega)
      rintro v1 w1 ⟨G1,hO1,hG1,ho2⟩
      have ho3:Only G w0 w1:=(ho4.weaken (by simp)).step ho2 (fun k hk => .inl hk)
      have hsz:=ho4.size
      have hb1:=ho3.block hb hbG
      have hb21:=ho2.block hb2 (fun hm=>by have:=hO.lt b2 hm;omega)
      clear hs
      have hs:=(St.nil w1).track hb1 (by simp)
      repeat' (first|refine Nx.h ?_|fail)
      refine dn (k:=?_)
      refine dt 15 hX (k:=?_)
      refine xs_appendW tabOk rfl rfl rfl rfl rfl rfl rfl (by decide) (lit_cells (news:=[.int .i64 x]) hb21) (by simp [Value.oneCell']) hO1 (by simp only [List.length_append];omega) (by simp only [List.length_append];omega) ?_
      intro v2 w3 h3 ho6
      obtain ⟨ho7,G2,hO2,hG2,hr2,hb3⟩:=fin b2 w1 v1 G1 hO1 (fun k hk=>by rcases hG1 k hk with h | h;exact .inl h;exact .inr (by omega)) ho3 hb21 v2 w3 h3 ho6
      clear hs
      have hs:=(St.nil w3).track hb3 (by simp)
      repeat' (first|refine Nx.h ?_|fail)
      refine dn (k:=?_)
      refine dt 16 hX (k:=?_)
      (with_reducible apply xs_call);exact rfl;exact rfl;exact walk_ret r pr v2 (xs ++ l.list ++ [x]) G2 _ hr2 hO2 (by simp only [List.length_append,List.length_cons,List.length_nil];omega)
      rintro v3 w4 ⟨G3,hO3,hG3,ho8⟩
      have hb4:=ho8.block hb3 (fun hm=>hO2.noNode b hm _ _ hb3)
      clear hs
      have hs:=(St.nil w4).track hb4 (by simp)
      repeat' (first|refine Nx.h ?_|fail)
      refine dn (k:=?_)
      refine tk 17 hX (k:=?_)
      refine en (k:=?_)
      repeat' (first|refine Nx.h ?_|fail)
      first | refine rt (hq:=?_) | refine rt' (hq:=?_)
      rw [show xs ++ l.list ++ [x] ++ r.list=xs ++ (RB.node l x r c).list by simp [RB.list]] at hO3
      have hsz2:=ho7.size
      have ho9:Only [] w4 _:=hs.onlyF [] (by simp [hb4]) (by simp [D0])
      exact ⟨G3,hO3.keep ho9 (by simp),fun k hk=>by rcases hG3 k hk with h | h;exact hG2 k h;exact .inr (by omega),(ho7.step ho8 hG2).step ho9 (by simp)⟩
theorem rbAll_ret (tb:Nat) (t:RB Int) (F:List Nat) (w0:World) (h:Obj6 w0 tb t F) (hlen:t.list.length≤1000000) :
    Ret Tryz.prog 311 #[.pointer (some ⟨tb,0,none⟩)] w0 fun v w'=>DAt w' v t.list∧Only [] w0 w':=by
  obtain ⟨p,fp,rfl,hT,ht,hnd⟩:=h
  have hs:=(St.nil w0).track hT (by simp)
  refine ret_of_xc Tryz.func311 (by kernel_rfl) rfl Tryz.ntmps311 rfl rfl rfl ?_
  repeat' (first|refine vs (k:=?_)|refine qRg ?_|refine Nx.h ?_|refine qCf ?_|fail)
  (with_reducible apply xs_call);exact rfl;exact rfl;exact walk_ret t p _ [] [] _ (ht.shape.keep (hs.onlyF [] (by simp [hT]) (by simp [D0])) (fun b h=>by cases h)) (.inl ⟨rfl,rfl,rfl,rfl⟩) (by simpa using hlen)
  rintro v w' ⟨G,hO,_,ho⟩
  replace hs:=hs.call0 ho
  rw [List.nil_append] at hO
  obtain ⟨ad,cap,rfl,hd⟩:=hO.dat
  obtain ⟨R,hs,hd⟩:=(show DAt w' (.slice ad t.list.length cap) t.list from ⟨ad,cap,rfl,hd⟩).read hs rfl
  repeat' (first|refine vs (k:=?_)|refine Nx.h ?_|fail)
  first | refine rt (hq:=?_) | refine rt' (hq:=?_)
  exact ⟨(hd _ (fun e he=>hs.ro e (by simp [he]))),hs.onlyF [] (by simp [hT]) (by simp [D0])⟩
end Go.Proofs.YtalffooghioekaaGreatDoorX

namespace Go.Proofs.YtalffooghioekaaGreatDoorX
open Go Go.RowKit
attribute [local irreducible] XS XC XA thenE blockE retE loopE loopS cutB cutN doneE SE
theorem take_succ_eq {A B:List Int} {i:Nat} (h:A.take i=B.take i) (hA:i < A.length) (hB:i < B.length) (he:A[i]=B[i]):A.take (i+1)=B.take (i+1):=by
  rw [List.take_add_one,List.take_add_one,h,List.getElem?_eq_getElem hA,List.getElem?_eq_getElem hB,he]
theorem next64' {i m:Nat} (h:i < m) (hm:m≤9223372036854775807):IntKind.i64.wrap ((i:Int)+1)=((i+1:Nat):Int):=by
  have e1:(i:Int)+1=((i+1:Nat):Int):=by omega
  rw [e1]
  exact i64_small (by omega) (by omega)
set_option maxHeartbeats 1000000 in
theorem equal_ret (va vb:Value) (A B:List Int) (hm:A.length≤9223372036854775807) (w0:World) (hA:DAt w0 va A) (hB:DAt w0 vb B) :
    Ret Tryz.prog 29 #[va,vb] w0 fun v w'=>v = .bool (decide (A=B))∧Only [] w0 w':=by
  obtain ⟨ada,ca,rfl,hA⟩:=hA
  obtain ⟨adb,cb,rfl,hB⟩:=hB
  have hs:=St.nil w0
  refine ret_of_xc Tryz.func29 (by kernel_rfl) rfl Tryz.ntmps29 rfl rfl rfl ?_
  repeat' (first|refine vs (k:=?_)|refine qRg ?_|refine Nx.h ?_|(refine xc_cond rfl (fun hc=>?_) (fun hc=>?_))|fail)
  · first | refine rt (hq:=?_) | refine rt' (hq:=?_)
    refine ⟨congrArg Value.bool ?_,hs.only0 rfl⟩
    have hne:A≠B:=fun e=>by subst e;simp at hc
    exact (decide_eq_false hne).symm
  · have hln:A.length=B.length:=by
      have h:((A.length:Nat):Int)=B.length:=by simpa using hc
      omega
    refine xc_cutB (fun _:Unit=>[]) (fun _ w=>A=B∧Only [] w0 w) ?_ ?_
    · refine xc_loopS (fun (i:Nat)=>[(0,.slice ada A.length ca),(1,.slice adb B.length cb),(12,.int .i64 (A.length:Nat)),(13,.int .i64 (i:Nat))])
        (fun i w=>i≤A.length∧A.take i=B.take i∧Only [] w0 w)
        (fun i=>A.length - i) 0 (by (repeat (first | exact agree_nil | (apply agree_cons;exact rfl)))) ⟨Nat.zero_le _,by simp,hs.only0 rfl⟩ fun i env w ⟨hi,ht,ho⟩=>?_
      clear hs
      have hs:=St.nil w
      repeat' (first|refine vs (k:=?_)|refine qRg ?_|refine Nx.h ?_|(refine xc_if rfl (fun hc=>?_) (fun hc=>?_))|fail)
      · have hlt:i < A.length:=by omega
        have hltB:i < B.length:=by omega
        obtain ⟨ba,oa,csa,fa,rfl,a2,a3,a4⟩:=hA (fun h=>by subst h;simp at hlt)
        obtain ⟨bb,ob,csb,fb,rfl,b2,b3,b4⟩:=hB (fun h=>by subst h;simp at hltB)
        have ga:=a4 i _ (List.getElem?_eq_getElem hlt)
        have gb:=b4 i _ (List.getElem?_eq_getElem hltB)
        have a3:=ho.block a3 (by simp)
        have b3:=ho.block b3 (by simp)
        have key:A[i]=B[i]→A.take (i+1)=B.take (i+1):=take_succ_eq ht hlt hltB
        have key2:A[i]≠B[i]→A≠B:=fun h e=>h (by subst e;rfl)
        have ei:=next64' hlt hm
        have ga':csa[oa+((i:Nat):Int).toNat*1]?=some (.int .i64 A[i]):=by simpa using ga
        have gb':csb[ob+((i:Nat):Int).toNat*1]?=some (.int .i64 B[i]):=by simpa using gb
        generalize A[i]=x at *
        generalize B[i]=y at *
        by_cases e:ba=bb
        · subst e
          rw [a3] at b3
          cases b3
          replace hs:=hs.track a3 (by simp)
          refine dr [] hs (k:=?_);intro hX w hs
          refine tk 0 hX (k:=?_)
          refine tk 1 hX (k:=?_)
          refine tk 2 hX (hr:=fun w' hH=>r_indexAddr tabOk rfl rfl rfl (by omega) (by omega)) (k:=?_)
          refine tk 3 hX (v := .int .i64 x) (hr:=fun w' hH=>r_load tabOk rfl rfl (hH rfl) At.head ga') (k:=?_)
          refine tk 4 hX (k:=?_)
          refine tk 5 hX (k:=?_)
          refine tk 6 hX (hr:=fun w' hH=>r_indexAddr tabOk rfl rfl rfl (by omega) (by omega)) (k:=?_)
          refine tk 7 hX (v := .int .i64 y) (hr:=fun w' hH=>r_load tabOk rfl rfl (hH rfl) At.head gb') (k:=?_)
          refine tk 8 hX (k:=?_)
          refine en (k:=?_)
          repeat' (first|refine vs (k:=?_)|refine qRg ?_|refine Nx.h ?_|(refine xc_cond rfl (fun hc=>?_) (fun hc=>?_))|fail)
          · first | refine rt (hq:=?_) | refine rt' (hq:=?_)
            exact ⟨congrArg Value.bool (decide_eq_false (key2 (by simpa using hc))).symm,ho.step (hs.onlyF [] (by simp [a3]) (by simp [D0])) (by simp)⟩
          · exact loopS_next (i+1) (by omega) (by (repeat (first | exact agree_nil | (apply agree_cons;first | exact rfl | exact congrArg (Value.int .i64) ei)))) ⟨by omega,key (by simpa using hc),ho.step (hs.onlyF [] (by simp [a3]) (by simp [D0])) (by simp)⟩
        · replace hs:=(hs.track a3 (by simp)).track b3 (by simpa using Ne.symm e)
          refine dr [] hs (k:=?_);intro hX w hs
          refine tk 0 hX (k:=?_)
          refine tk 1 hX (k:=?_)
          refine tk 2 hX (hr:=fun w' hH=>r_indexAddr tabOk rfl rfl rfl (by omega) (by omega)) (k:=?_)
          refine tk 3 hX (v := .int .i64 x) (hr:=fun w' hH=>r_load tabOk rfl rfl (hH rfl) (At.tail At.head) ga') (k:=?_)
          refine tk 4 hX (k:=?_)
          refine tk 5 hX (k:=?_)
          refine tk 6 hX (hr:=fun w' hH=>r_indexAddr tabOk rfl rfl rfl (by omega) (by omega)) (k:=?_)
          refine tk 7 hX (v := .int .i64 y) (hr:=fun w' hH=>r_load tabOk rfl rfl (hH rfl) At.head gb') (k:=?_)
          refine tk 8 hX (k:=?_)
          refine en (k:=?_)
          repeat' (first|refine vs (k:=?_)|refine qRg ?_|refine Nx.h ?_|(refine xc_cond rfl (fun hc=>?_) (fun hc=>?_))|fail)
          · first | refine rt (hq:=?_) | refine rt' (hq:=?_)
            exact ⟨congrArg Value.bool (decide_eq_false (key2 (by simpa using hc))).symm,ho.step (hs.onlyF [] (by simp [a3,b3]) (by simp [D0])) (by simp)⟩
          · exact loopS_next (i+1) (by omega) (by (repeat (first | exact agree_nil | (apply agree_cons;first | exact rfl | exact congrArg (Value.int .i64) ei)))) ⟨by omega,key (by simpa using hc),ho.step (hs.onlyF [] (by simp [a3,b3]) (by simp [D0])) (by simp)⟩
      · have e:i=A.length:=by omega
        have hAB:A=B:=by
          have h1:A.take i=A:=List.take_of_length_le (by omega)
          have h2:B.take i=B:=List.take_of_length_le (by omega)
          rw [← h1,ht,h2]
        exact cutB_exit () (by (repeat (first | exact agree_nil | (apply agree_cons;exact rfl)))) ⟨hAB,ho.step (hs.only0 rfl) (by simp)⟩
    · rintro _ env w ⟨rfl,ho⟩
      clear hs
      have hs:=St.nil w
      repeat' (first|refine vs (k:=?_)|refine qRg ?_|refine Nx.h ?_|fail)
      first | refine rt (hq:=?_) | refine rt' (hq:=?_)
      exact ⟨congrArg Value.bool (decide_eq_true rfl).symm,ho.step (hs.only0 rfl) (by simp)⟩
end Go.Proofs.YtalffooghioekaaGreatDoorX

namespace Go.Proofs.YtalffooghioekaaGreatDoorX
open Go Go.RowKit
attribute [local irreducible] XS XC XA thenE blockE retE loopE loopS cutB cutN doneE SE
theorem Obj6.only {w w':World} {tb:Nat} {t:RB Int} {F:List Nat} (h:Obj6 w tb t F) (ho:Only [] w w'):Obj6 w' tb t F:=by
  obtain ⟨p,fp,h1,h2,h3,h4⟩:=h
  exact ⟨p,fp,h1,ho.block h2 (by simp),h3.keep ho (Nodes.nil w) (by simp),h4⟩
def New (w0:World) (F:List Nat):Prop:=∀ k∈F,w0.heap.size≤k
theorem New.step {w0 w:World} {F F':List Nat} (h:New w0 F) (ho:Only [] w0 w) (hs:∀ k∈F',k∈F∨w.heap.size≤k):New w0 F':=fun k hk=>by
  have:=ho.size
  rcases hs k hk with h' | h'
  · exact h k h'
  · omega
theorem Only.news {w0 w w':World} {F:List Nat} (ho:Only [] w0 w) (h:New w0 F) (ho':Only F w w'):Only [] w0 w':=ho.step ho' fun k hk => .inr (h k hk)
set_option maxHeartbeats 1000000 in
theorem awake6_ret (w0:World):Ret Tryz.prog 303 #[] w0 fun v w'=>v = .bool true∧Only [] w0 w':=by
  have hs:=St.nil w0
  refine ret_of_xc Tryz.func303 (by kernel_rfl) rfl Tryz.ntmps303 rfl rfl rfl ?_
  repeat' (first|refine vs (k:=?_)|refine qRg ?_|refine Nx.h ?_|fail)
  (with_reducible apply xs_call);exact rfl;exact rfl;exact rbNew_ret _
  rintro v w1 ⟨tb,F0,rfl,h0,hn,ho⟩
  have o0:Only [] w0 w1:=(hs.only0 rfl).step ho (by simp)
  have n0:New w0 F0:=fun k hk=>Nat.le_trans (hs.only0 rfl).size (hn k hk)
  clear hs
  have hs:=St.nil w1
  repeat' (first|refine vs (k:=?_)|refine qRg ?_|refine Nx.h ?_|refine qCf ?_|fail)
  have oo:=hs.only0 rfl
  (with_reducible apply xs_call);exact rfl;exact rfl;exact rbInsert_ret tb .nil F0 3 _ (h0.only oo) (by decide)
  rintro v w2 ⟨rfl,F1,h1,s1,o1⟩
  have n1:=n0.step (o0.step oo (by simp)) s1
  have o2:=(o0.step oo (by simp)).news n0 o1
  rw [show RB.has ltI 3 (RB.nil:RB Int)=false from rfl]
  clear hs oo
  have hs:=St.nil w2
  repeat' (first|refine vs (k:=?_)|fail)
  have oo:=hs.only0 rfl
  (with_reducible apply xs_call);exact rfl;exact rfl;exact rbInsert_ret tb _ F1 1 _ (h1.only oo) (by decide)
  rintro v w3 ⟨rfl,F2,h2,s2,o3⟩
  have n2:=n1.step (o2.step oo (by simp)) s2
  have o4:=(o2.step oo (by simp)).news n1 o3
  rw [show RB.has ltI 1 (RB.insert RB.nil 3)=false by decide]
  clear hs oo
  have hs:=St.nil w3
  repeat' (first|refine vs (k:=?_)|fail)
  have oo:=hs.only0 rfl
  (with_reducible apply xs_call);exact rfl;exact rfl;exact rbInsert_ret tb _ F2 2 _ (h2.only oo) (by decide)
  rintro v w4 ⟨rfl,F3,h3,s3,o5⟩
  have n3:=n2.step (o4.step oo (by simp)) s3
  have o6:=(o4.step oo (by simp)).news n2 o5
  rw [show RB.has ltI 2 (RB.insert (RB.insert RB.nil 3) 1)=false by decide]
  have el:(RB.insert (RB.insert (RB.insert RB.nil 3) 1) 2).list=[1,2,3]:=by decide
  have ed:(RB.insert (RB.insert (RB.insert RB.nil 3) 1) 2).depth=2:=by decide
  generalize RB.insert (RB.insert (RB.insert RB.nil 3) 1) 2=t at *
  clear hs oo
  have hs:=St.nil w4
  repeat' (first|refine vs (k:=?_)|refine qRg ?_|refine Nx.h ?_|fail)
  (with_reducible apply xs_call);exact rfl;exact rfl;exact rbAll_ret tb t F3 _ (h3.only (hs.only0 rfl)) (by rw [el];decide)
  rintro v w' ⟨hd,ho⟩;replace hs:=hs.call0 ho
  rw [el] at hd
  obtain ⟨ad,cp,rfl,_⟩:=id hd
  obtain ⟨R,hs,hd⟩:=hd.read hs rfl
  refine bs hs (k:=?_);intro b w hz hs
  skip
  have hb:=hs.get At.head
  (with_reducible apply xs_call);exact rfl;exact rfl;exact equal_ret _ _ [1,2,3] [1,2,3] (by decide) _ (hd _ (fun e he=>hs.ro e (by simp [he]))) ⟨some ⟨b,0,none⟩,3,rfl,fun _=>⟨b,0,_,_,rfl,Nat.le_refl _,hb,fun i d h=>by match i,h with | 0,h=>simpa using h | 1,h=>simpa using h | 2,h=>simpa using h | i+3,h=>simp at h⟩⟩
  rintro v w' ⟨rfl,ho⟩;replace hs:=hs.call0 ho
  rw [show decide (([1,2,3]:List Int)=[1,2,3])=true from rfl]
  repeat' (first|refine vs (k:=?_)|fail)
  (with_reducible apply xs_call);exact rfl;exact rfl;exact rbDepth_ret tb t F3 _ (h3.only (hs.only0 rfl)) (by rw [el];decide)
  rintro v w' ⟨rfl,ho⟩;replace hs:=hs.call0 ho
  rw [ed]
  repeat' (first|refine vs (k:=?_)|refine Nx.h ?_|fail)
  first | refine rt (hq:=?_) | refine rt' (hq:=?_)
  exact ⟨rfl,o6.step (hs.only0 rfl) (by simp)⟩
end Go.Proofs.YtalffooghioekaaGreatDoorX

namespace Go.Proofs.YtalffooghioekaaGreatDoorX.IB
open Go Go.RowKit
attribute [local irreducible] XS XC XA thenE blockE retE loopE loopS cutB cutN doneE SE
abbrev IT:={a:It // a.In}
def ltT (x y:IT):Bool:=ahead x.1 y.1
def snr (x y:IT):IT:=bif due y.1 x.1 then y else x
def all? : RB IT→Option IT
  | .nil=>none
  | .node l x r _=>some (match all? r with | none=>(match all? l with | none=>x | some a=>snr a x) | some b=>snr (match all? l with | none=>x | some a=>snr a x) b)
def allN (l:RB IT) (x:IT) (r:RB IT):IT:=match all? r with | none=>(match all? l with | none=>x | some a=>snr a x) | some b=>snr (match all? l with | none=>x | some a=>snr a x) b
abbrev nodeO (x:IT) (a:It) (pl pr:Option Addr) (c:Bool):Obj := .cells #[.int .u64 x.1.p.t,.int .u32 x.1.p.r,.int .u32 x.1.p.w,.int .i64 x.1.id,.int .u64 x.1.d.t,.int .u32 x.1.d.r,.int .u32 x.1.d.w,.int .u64 a.p.t,.int .u32 a.p.r,.int .u32 a.p.w,.int .i64 a.id,.int .u64 a.d.t,.int .u32 a.d.r,.int .u32 a.d.w,.pointer pl,.pointer pr,.bool c] 295 (0,0)
abbrev treeO (p:Option Addr) (n:Int):Obj := .cells #[.pointer p,.int .i64 n,.func (.func 223) #[] #[],.func (.func 224) #[] #[],.func (.func 225) #[] #[]] 225 (0,0)
def SAt (_:World) (av:It) (l:RB IT) (x:IT) (r:RB IT):Prop:=av=(allN l x r).1
theorem ahd_ret (x y:IT) (w0:World):Ret Tryz.prog 223 #[iv x.1,iv y.1] w0 fun v w'=>v = .bool (ltT x y)∧Only [] w0 w':=ahead_ret x.1 y.1 x.2 y.2 w0
theorem itself_ret (a:It) (w0:World):Ret Tryz.prog 224 #[iv a] w0 fun v w'=>v=iv a∧Only [] w0 w':=by
  have hs:=St.nil w0
  refine ret_of_xc Tryz.func224 (by kernel_rfl) rfl Tryz.ntmps224 rfl rfl rfl ?_
  repeat' (first|refine vs (k:=?_)|(refine stA hs (k:=?_);intro w hs)|(refine al hs (k:=?_);intro b w hz hs)|(refine bx hs (k:=?_);intro b w hz hs)|refine qRg ?_|refine Nx.h ?_|fail)
  first | refine rt (hq:=?_) | refine rt' (hq:=?_)
  exact ⟨rfl,hs.only0 rfl⟩
theorem its_one {w:World} {b:Nat} {a:It} (hb:w.heap[b]?=some (.cells a.cells.toArray 64 (0,0))):ItsAt w (.slice (some ⟨b,0,none⟩) 1 1) [a] :=
  ⟨_,1,rfl,fun _=>⟨b,0,_,(0,0),rfl,Nat.le_refl _,hb,fun i x h=>by
    cases i with
    | zero =>
      simp only [List.map_cons,List.getElem?_cons_zero,Option.some.injEq] at h
      subst h
      exact pick_of rfl rfl
    | succ i=>simp at h⟩⟩
theorem sooner_ret (x y:IT) (w0:World):Ret Tryz.prog 225 #[iv x.1,iv y.1] w0 fun v w'=>v=iv (snr x y).1∧Only [] w0 w':=by
  have e:soonest x.1 [y.1]=(snr x y).1:=by unfold soonest snr;simp only [List.foldl_cons,List.foldl_nil];cases due y.1 x.1 <;> rfl
  have hs:=St.nil w0
  refine ret_of_xc Tryz.func225 (by kernel_rfl) rfl Tryz.ntmps225 rfl rfl rfl ?_
  repeat' (first|refine vs (k:=?_)|(refine al hs (k:=?_);intro b w hz hs)|(refine bx hs (k:=?_);intro b w hz hs)|(refine bs hs (k:=?_);intro b w hz hs)|refine qRg ?_|refine Nx.h ?_|fail)
  (with_reducible apply xs_call);exact rfl;exact rfl;exact soonest_ret x.1 [y.1] _ x.2 (by simp;exact y.2) (by simp) _ (its_one (hs.get At.head))
  rw [e]
  rintro v w' ⟨rfl,ho⟩;replace hs:=hs.call0 ho;repeat' (first|(refine stA hs (k:=?_);intro w hs)|refine Nx.h ?_|fail)
  first | refine rt (hq:=?_) | refine rt' (hq:=?_)
  exact ⟨rfl,hs.only0 rfl⟩
end Go.Proofs.YtalffooghioekaaGreatDoorX.IB

namespace Go.Proofs.YtalffooghioekaaGreatDoorX.IB
open Go Go.RowKit
theorem SAt.keep {w w':World} {av:It} {l:RB IT} {x:IT} {r:RB IT} {F:List Nat} (h:SAt w av l x r) (_:Only F w w') {q:Prop} (_:q):SAt w' av l x r:=h
def TreeAt (w:World):RB IT→Option Addr→List Nat→Prop
  | .nil,p,fp=>p=none∧fp=[]
  | .node l x r c,p,fp=>∃ b av pl pr fl fr,p=some ⟨b,0,none⟩∧fp=b :: (fl ++ fr)∧w.heap[b]?=some (nodeO x av pl pr c)∧SAt w av l x r∧TreeAt w l pl fl∧TreeAt w r pr fr
def StaleAt (w:World) (l:RB IT) (x:IT) (r:RB IT) (c:Bool) (p:Option Addr) (fp:List Nat):Prop :=
  ∃ b av pl pr fl fr,p=some ⟨b,0,none⟩∧fp=b :: (fl ++ fr)∧w.heap[b]?=some (nodeO x av pl pr c)∧TreeAt w l pl fl∧TreeAt w r pr fr
theorem TreeAt.stale {w:World} {l:RB IT} {x:IT} {r:RB IT} {c:Bool} {p:Option Addr} {fp:List Nat} (h:TreeAt w (.node l x r c) p fp):StaleAt w l x r c p fp:=by
  obtain ⟨b,av,pl,pr,fl,fr,h1,h2,h3,h4,h5,h6⟩:=h
  exact ⟨b,av,pl,pr,fl,fr,h1,h2,h3,h5,h6⟩
def Nodes (w:World) (F:List Nat):Prop:=∀ b∈F,∃ cs fz,w.heap[b]?=some (.cells cs 295 fz)
theorem Nodes.nil (w:World):Nodes w []:=fun b h=>by cases h
theorem Nodes.append {w:World} {F G:List Nat} (h:Nodes w F) (k:Nodes w G):Nodes w (F ++ G):=fun b hb=>by
  rcases List.mem_append.1 hb with hb | hb
  · exact h b hb
  · exact k b hb
theorem Nodes.cons {w:World} {F:List Nat} {b:Nat} {cs:Array Value} {fz:Nat × Nat} (h:w.heap[b]?=some (.cells cs 295 fz)) (k:Nodes w F):Nodes w (b :: F):=fun b' hb=>by
  rcases List.mem_cons.1 hb with rfl | hb
  · exact ⟨_,_,h⟩
  · exact k b' hb
theorem TreeAt.nodes {w:World}:∀ {t:RB IT} {p:Option Addr} {fp:List Nat},TreeAt w t p fp→Nodes w fp
  | .nil,p,fp,⟨_,h⟩=>by subst h;exact Nodes.nil w
  | .node l x r c,p,fp,⟨b,av,pl,pr,fl,fr,h1,h2,h3,h4,h5,h6⟩=>by
    subst h2
    exact .cons h3 (h5.nodes.append h6.nodes)
theorem StaleAt.nodes {w:World} {l:RB IT} {x:IT} {r:RB IT} {c:Bool} {p:Option Addr} {fp:List Nat} (h:StaleAt w l x r c p fp):Nodes w fp:=by
  obtain ⟨b,av,pl,pr,fl,fr,h1,h2,h3,h5,h6⟩:=h
  subst h2
  exact .cons h3 (h5.nodes.append h6.nodes)
theorem TreeAt.keep {w w':World} {F:List Nat} (ho:Only F w w') (hF:Nodes w F):∀ {t:RB IT} {p:Option Addr} {fp:List Nat},TreeAt w t p fp→(∀ b∈fp,b∉F)→TreeAt w' t p fp
  | .nil,p,fp,h,_=>h
  | .node l x r c,p,fp,⟨b,av,pl,pr,fl,fr,h1,h2,h3,h4,h5,h6⟩,hd=>by
    subst h2
    exact ⟨b,av,pl,pr,fl,fr,h1,rfl,ho.block h3 (hd b List.mem_cons_self),h4.keep ho hF,TreeAt.keep ho hF h5 fun k hk=>hd k (List.mem_cons_of_mem _ (List.mem_append_left _ hk)),
      TreeAt.keep ho hF h6 fun k hk=>hd k (List.mem_cons_of_mem _ (List.mem_append_right _ hk))⟩
theorem head_keep {w w':World} {F:List Nat} {tb:Nat} {p:Option Addr} {n:Int} (h:w.heap[tb]?=some (treeO p n)) (ho:Only F w w') (hF:Nodes w F):w'.heap[tb]?=some (treeO p n) :=
  ho.block h fun hb=>by
    obtain ⟨cs',fz',h5⟩:=hF tb hb
    rw [h] at h5
    cases h5
end Go.Proofs.YtalffooghioekaaGreatDoorX.IB

namespace Go.Proofs.YtalffooghioekaaGreatDoorX.IB
open Go Go.RowKit
attribute [local irreducible] XS XC XA thenE blockE retE loopE loopS cutB cutN doneE SE
theorem isRed_ret (t:RB IT) (p:Option Addr) (fp:List Nat) (w0:World) (h:TreeAt w0 t p fp):Ret Tryz.prog 256 #[.pointer p] w0 fun v w'=>v = .bool t.red∧Only [] w0 w':=by
  have hs:=St.nil w0
  cases t with
  | nil =>
    obtain ⟨rfl,rfl⟩:=h
    refine ret_of_xc Tryz.func256 (by kernel_rfl) rfl Tryz.ntmps256 rfl rfl rfl ?_
    repeat' (first|refine vs (k:=?_)|refine ps (k:=?_)|refine qRg ?_|refine Nx.h ?_|fail)
    first | refine rt (hq:=?_) | refine rt' (hq:=?_)
    exact ⟨rfl,hs.only0 rfl⟩
  | node l x r c =>
    obtain ⟨b,av,pl,pr,fl,fr,rfl,h2,h3,h4,h5,h6⟩:=h
    replace hs:=hs.track h3 (by simp)
    refine ret_of_xc Tryz.func256 (by kernel_rfl) rfl Tryz.ntmps256 rfl rfl rfl ?_
    repeat' (first|refine vs (k:=?_)|refine qRg ?_|refine Nx.h ?_|fail)
    first | refine rt (hq:=?_) | refine rt' (hq:=?_)
    exact ⟨rfl,hs.onlyF [] (by simp [h3]) (by simp [D0])⟩
theorem head_ne {w:World} {tb b:Nat} {p:Option Addr} {n:Int} {cs:Array Value} {fz:Nat × Nat} (h:w.heap[tb]?=some (treeO p n)) (k:w.heap[b]?=some (.cells cs 295 fz)):b≠tb:=fun e=>by
  subst e
  rw [h] at k
  cases k
set_option maxHeartbeats 1000000 in
theorem rbSum_ret (tb:Nat) (p0:Option Addr) (n0:Int) (l:RB IT) (x:IT) (r:RB IT) (c:Bool) (p:Option Addr) (fp:List Nat) (w0:World) (hT:w0.heap[tb]?=some (treeO p0 n0)) (h:StaleAt w0 l x r c p fp) (hnd:fp.Nodup) (hlen:(l.list ++ x :: r.list).length≤1000000) :
    Ret Tryz.prog 270 #[.pointer (some ⟨tb,0,none⟩),.pointer p] w0 fun v w'=>TreeAt w' (.node l x r c) p fp∧Only fp w0 w':=by
  obtain ⟨b,av,pl,pr,fl,fr,rfl,rfl,hb,hl,hr⟩:=h
  have hbt:=head_ne hT hb
  obtain ⟨hnb,hnd2⟩:=List.nodup_cons.1 hnd
  have hnl:∀ k∈fl,k∉[b]:=fun k hk hm=>by
    obtain rfl:=List.mem_singleton.1 hm
    exact hnb (List.mem_append_left _ hk)
  have hnr:∀ k∈fr,k∉[b]:=fun k hk hm=>by
    obtain rfl:=List.mem_singleton.1 hm
    exact hnb (List.mem_append_right _ hk)
  have hlr:∀ k∈fl,k∉fr:=fun k hk hm=>(List.nodup_append.1 hnd2).2.2 k hk k hm rfl
  have hNb:Nodes w0 [b]:=Nodes.cons hb (Nodes.nil w0)
  have fin:∀ (w':World) (av':It),w'.heap[b]?=some (nodeO x av' pl pr c)→SAt w' av' l x r→Only [b] w0 w'→TreeAt w' (.node l x r c) (some ⟨b,0,none⟩) (b :: (fl ++ fr))∧Only (b :: (fl ++ fr)) w0 w':=fun w' av' h1 h2 ho =>
    ⟨⟨b,av',pl,pr,fl,fr,rfl,rfl,h1,h2,hl.keep ho hNb hnl,hr.keep ho hNb hnr⟩,ho.weaken fun k hk=>by obtain rfl:=List.mem_singleton.1 hk;exact List.mem_cons_self⟩
  clear hnd
  have hs:=St.nil w0
  replace hs:=hs.track hT (by simp)
  replace hs:=hs.track hb (by simpa using hbt)
  cases l with
  | nil =>
    cases r with
    | nil =>
      obtain ⟨rfl,rfl⟩:=hl
      obtain ⟨rfl,rfl⟩:=hr
      refine ret_of_xc Tryz.func270 (by kernel_rfl) rfl Tryz.ntmps270 rfl rfl rfl ?_
      repeat' (first|refine Nx.h ?_|fail)
      refine dr [12] hs (k:=?_);intro hX w hs
      refine tk 0 hX (k:=?_)
      refine tk 1 hX (k:=?_)
      refine tk 2 hX (k:=?_)
      refine tk 3 hX (k:=?_)
      refine tk 4 hX (k:=?_)
      refine tk 5 hX (k:=?_)
      refine tk 6 hX (k:=?_)
      refine tk 7 hX (k:=?_)
      refine tk 8 hX (k:=?_)
      refine dt 9 hX (k:=?_)
      (with_reducible apply xs_call);exact rfl;exact rfl;exact itself_ret x.1 _
      rintro v w' ⟨rfl,ho⟩;replace hs:=hs.call0 ho;repeat' (first|refine Nx.h ?_|fail)
      refine dn (k:=?_)
      refine tk 10 hX (k:=?_)
      refine tk 11 hX (k:=?_)
      refine dt 12 hX (k:=?_)
      repeat' (first|(refine stA hs (k:=?_);intro w hs)|refine Nx.h ?_|fail)
      refine dn (k:=?_)
      refine en (k:=?_)
      repeat' (first|refine vs (k:=?_)|refine qRg ?_|refine Nx.h ?_|refine qCf ?_|fail)
      first | refine rt' (vs:=[]) (hr:=resOk_nil) (hq:=?_) | refine rt (vs:=[]) (hr:=resOk_nil) (hq:=?_)
      exact fin _ _ (hs.get At.head) rfl (hs.onlyF [b] (by simp [hT]) (by simp [D0]))
    | node rl rx rr rc =>
      obtain ⟨rfl,rfl⟩:=hl
      obtain ⟨rb,rav,rpl,rpr,rfl',rfr,rfl,rfl,hrb,hrav,hrl,hrr'⟩:=hr
      have hrav':rav=(allN rl rx rr).1:=hrav
      subst hrav'
      have hrt:=head_ne hT hrb
      have hbrb:rb≠b:=fun e=>by subst e;exact hnr _ List.mem_cons_self List.mem_cons_self
      replace hs:=hs.track hrb (by simp [hrt,hbrb])
      refine ret_of_xc Tryz.func270 (by kernel_rfl) rfl Tryz.ntmps270 rfl rfl rfl ?_
      repeat' (first|refine Nx.h ?_|fail)
      refine dr [12] hs (k:=?_);intro hX w hs
      refine tk 0 hX (k:=?_)
      refine tk 1 hX (k:=?_)
      refine tk 2 hX (k:=?_)
      refine tk 3 hX (k:=?_)
      refine tk 4 hX (k:=?_)
      refine tk 5 hX (k:=?_)
      refine tk 6 hX (k:=?_)
      refine tk 7 hX (k:=?_)
      refine tk 8 hX (k:=?_)
      refine dt 9 hX (k:=?_)
      (with_reducible apply xs_call);exact rfl;exact rfl;exact itself_ret x.1 _
      rintro v w' ⟨rfl,ho⟩;replace hs:=hs.call0 ho;repeat' (first|refine Nx.h ?_|fail)
      refine dn (k:=?_)
      refine tk 10 hX (k:=?_)
      refine tk 11 hX (k:=?_)
      refine dt 12 hX (k:=?_)
      repeat' (first|(refine stA hs (k:=?_);intro w hs)|refine Nx.h ?_|fail)
      refine dn (k:=?_)
      refine en (k:=?_)
      repeat' (first|refine vs (k:=?_)|refine qRg ?_|refine Nx.h ?_|refine qCt ?_|refine qCf ?_|fail)
      refine dr [19] hs (k:=?_);intro hX w hs
      refine tk 0 hX (k:=?_)
      refine tk 1 hX (k:=?_)
      refine tk 2 hX (k:=?_)
      refine tk 3 hX (k:=?_)
      refine tk 4 hX (k:=?_)
      refine tk 5 hX (k:=?_)
      refine tk 6 hX (k:=?_)
      refine tk 7 hX (k:=?_)
      refine tk 8 hX (k:=?_)
      refine tk 9 hX (k:=?_)
      refine tk 10 hX (k:=?_)
      refine tk 11 hX (k:=?_)
      refine tk 12 hX (k:=?_)
      refine tk 13 hX (k:=?_)
      refine tk 14 hX (k:=?_)
      refine tk 15 hX (k:=?_)
      refine dt 16 hX (k:=?_)
      (with_reducible apply xs_call);exact rfl;exact rfl;exact sooner_ret x (allN rl rx rr) _
      rintro v w' ⟨rfl,ho⟩;replace hs:=hs.call0 ho;repeat' (first|refine Nx.h ?_|fail)
      refine dn (k:=?_)
      refine tk 17 hX (k:=?_)
      refine tk 18 hX (k:=?_)
      refine dt 19 hX (k:=?_)
      repeat' (first|(refine stA hs (k:=?_);intro w hs)|refine Nx.h ?_|fail)
      refine dn (k:=?_)
      refine en (k:=?_)
      skip
      first | refine rt' (vs:=[]) (hr:=resOk_nil) (hq:=?_) | refine rt (vs:=[]) (hr:=resOk_nil) (hq:=?_)
      exact fin _ _ (hs.get (At.tail At.head)) rfl (hs.onlyF [b] (by simp [hT,hrb]) (by simp [D0]))
  | node ll lx lr lc =>
    cases r with
    | nil =>
      obtain ⟨lb,lav,lpl,lpr,lfl,lfr,rfl,rfl,hlb,hlav,hll,hlr'⟩:=hl
      have hlav':lav=(allN ll lx lr).1:=hlav
      subst hlav'
      have hlt:=head_ne hT hlb
      have hblb:lb≠b:=fun e=>by subst e;exact hnl _ List.mem_cons_self List.mem_cons_self
      replace hs:=hs.track hlb (by simp [hlt,hblb])
      obtain ⟨rfl,rfl⟩:=hr
      refine ret_of_xc Tryz.func270 (by kernel_rfl) rfl Tryz.ntmps270 rfl rfl rfl ?_
      repeat' (first|refine Nx.h ?_|fail)
      refine dr [12] hs (k:=?_);intro hX w hs
      refine tk 0 hX (k:=?_)
      refine tk 1 hX (k:=?_)
      refine tk 2 hX (k:=?_)
      refine tk 3 hX (k:=?_)
      refine tk 4 hX (k:=?_)
      refine tk 5 hX (k:=?_)
      refine tk 6 hX (k:=?_)
      refine tk 7 hX (k:=?_)
      refine tk 8 hX (k:=?_)
      refine dt 9 hX (k:=?_)
      (with_reducible apply xs_call);exact rfl;exact rfl;exact itself_ret x.1 _
      rintro v w' ⟨rfl,ho⟩;replace hs:=hs.call0 ho;repeat' (first|refine Nx.h ?_|fail)
      refine dn (k:=?_)
      refine tk 10 hX (k:=?_)
      refine tk 11 hX (k:=?_)
      refine dt 12 hX (k:=?_)
      repeat' (first|(refine stA hs (k:=?_);intro w hs)|refine Nx.h ?_|fail)
      refine dn (k:=?_)
      refine en (k:=?_)
      repeat' (first|refine vs (k:=?_)|refine qRg ?_|refine Nx.h ?_|refine qCt ?_|fail)
      refine dr [19] hs (k:=?_);intro hX w hs
      refine tk 0 hX (k:=?_)
      refine tk 1 hX (k:=?_)
      refine tk 2 hX (k:=?_)
      refine tk 3 hX (k:=?_)
      refine tk 4 hX (k:=?_)
      refine tk 5 hX (k:=?_)
      refine tk 6 hX (k:=?_)
      refine tk 7 hX (k:=?_)
      refine tk 8 hX (k:=?_)
      refine tk 9 hX (k:=?_)
      refine tk 10 hX (k:=?_)
      refine tk 11 hX (k:=?_)
      refine tk 12 hX (k:=?_)
      refine tk 13 hX (k:=?_)
      refine tk 14 hX (k:=?_)
      refine tk 15 hX (k:=?_)
      refine dt 16 hX (k:=?_)
      (with_reducible apply xs_call);exact rfl;exact rfl;exact sooner_ret (allN ll lx lr) x _
      rintro v w' ⟨rfl,ho⟩;replace hs:=hs.call0 ho;repeat' (first|refine Nx.h ?_|fail)
      refine dn (k:=?_)
      refine tk 17 hX (k:=?_)
      refine tk 18 hX (k:=?_)
      refine dt 19 hX (k:=?_)
      repeat' (first|(refine stA hs (k:=?_);intro w hs)|refine Nx.h ?_|fail)
      refine dn (k:=?_)
      refine en (k:=?_)
      repeat' (first|refine vs (k:=?_)|refine qRg ?_|refine Nx.h ?_|refine qCf ?_|fail)
      first | refine rt' (vs:=[]) (hr:=resOk_nil) (hq:=?_) | refine rt (vs:=[]) (hr:=resOk_nil) (hq:=?_)
      exact fin _ _ (hs.get (At.tail At.head)) rfl (hs.onlyF [b] (by simp [hT,hlb]) (by simp [D0]))
    | node rl rx rr rc =>
      obtain ⟨lb,lav,lpl,lpr,lfl,lfr,rfl,rfl,hlb,hlav,hll,hlr'⟩:=hl
      have hlav':lav=(allN ll lx lr).1:=hlav
      subst hlav'
      have hlt:=head_ne hT hlb
      have hblb:lb≠b:=fun e=>by subst e;exact hnl _ List.mem_cons_self List.mem_cons_self
      replace hs:=hs.track hlb (by simp [hlt,hblb])
      obtain ⟨rb,rav,rpl,rpr,rfl',rfr,rfl,rfl,hrb,hrav,hrl,hrr'⟩:=hr
      have hrav':rav=(allN rl rx rr).1:=hrav
      subst hrav'
      have hrt:=head_ne hT hrb
      have hbrb:rb≠b:=fun e=>by subst e;exact hnr _ List.mem_cons_self List.mem_cons_self
      have hrlb:rb≠lb:=fun e=>by subst e;exact hlr _ List.mem_cons_self List.mem_cons_self
      replace hs:=hs.track hrb (by simp [hrt,hbrb,hrlb])
      refine ret_of_xc Tryz.func270 (by kernel_rfl) rfl Tryz.ntmps270 rfl rfl rfl ?_
      repeat' (first|refine Nx.h ?_|fail)
      refine dr [12] hs (k:=?_);intro hX w hs
      refine tk 0 hX (k:=?_)
      refine tk 1 hX (k:=?_)
      refine tk 2 hX (k:=?_)
      refine tk 3 hX (k:=?_)
      refine tk 4 hX (k:=?_)
      refine tk 5 hX (k:=?_)
      refine tk 6 hX (k:=?_)
      refine tk 7 hX (k:=?_)
      refine tk 8 hX (k:=?_)
      refine dt 9 hX (k:=?_)
      (with_reducible apply xs_call);exact rfl;exact rfl;exact itself_ret x.1 _
      rintro v w' ⟨rfl,ho⟩;replace hs:=hs.call0 ho;repeat' (first|refine Nx.h ?_|fail)
      refine dn (k:=?_)
      refine tk 10 hX (k:=?_)
      refine tk 11 hX (k:=?_)
      refine dt 12 hX (k:=?_)
      repeat' (first|(refine stA hs (k:=?_);intro w hs)|refine Nx.h ?_|fail)
      refine dn (k:=?_)
      refine en (k:=?_)
      repeat' (first|refine vs (k:=?_)|refine qRg ?_|refine Nx.h ?_|refine qCt ?_|fail)
      refine dr [19] hs (k:=?_);intro hX w hs
      refine tk 0 hX (k:=?_)
      refine tk 1 hX (k:=?_)
      refine tk 2 hX (k:=?_)
      refine tk 3 hX (k:=?_)
      refine tk 4 hX (k:=?_)
      refine tk 5 hX (k:=?_)
      refine tk 6 hX (k:=?_)
      refine tk 7 hX (k:=?_)
      refine tk 8 hX (k:=?_)
      refine tk 9 hX (k:=?_)
      refine tk 10 hX (k:=?_)
      refine tk 11 hX (k:=?_)
      refine tk 12 hX (k:=?_)
      refine tk 13 hX (k:=?_)
      refine tk 14 hX (k:=?_)
      refine tk 15 hX (k:=?_)
      refine dt 16 hX (k:=?_)
      (with_reducible apply xs_call);exact rfl;exact rfl;exact sooner_ret (allN ll lx lr) x _
      rintro v w' ⟨rfl,ho⟩;replace hs:=hs.call0 ho;repeat' (first|refine Nx.h ?_|fail)
      refine dn (k:=?_)
      refine tk 17 hX (k:=?_)
      refine tk 18 hX (k:=?_)
      refine dt 19 hX (k:=?_)
      repeat' (first|(refine stA hs (k:=?_);intro w hs)|refine Nx.h ?_|fail)
      refine dn (k:=?_)
      refine en (k:=?_)
      repeat' (first|refine vs (k:=?_)|refine qRg ?_|refine Nx.h ?_|refine qCt ?_|fail)
      refine dr [19] hs (k:=?_);intro hX w hs
      refine tk 0 hX (k:=?_)
      refine tk 1 hX (k:=?_)
      refine tk 2 hX (k:=?_)
      refine tk 3 hX (k:=?_)
      refine tk 4 hX (k:=?_)
      refine tk 5 hX (k:=?_)
      refine tk 6 hX (k:=?_)
      refine tk 7 hX (k:=?_)
      refine tk 8 hX (k:=?_)
      refine tk 9 hX (k:=?_)
      refine tk 10 hX (k:=?_)
      refine tk 11 hX (k:=?_)
      refine tk 12 hX (k:=?_)
      refine tk 13 hX (k:=?_)
      refine tk 14 hX (k:=?_)
      refine tk 15 hX (k:=?_)
      refine dt 16 hX (k:=?_)
      (with_reducible apply xs_call);exact rfl;exact rfl;exact sooner_ret (snr (allN ll lx lr) x) (allN rl rx rr) _
      rintro v w' ⟨rfl,ho⟩;replace hs:=hs.call0 ho;repeat' (first|refine Nx.h ?_|fail)
      refine dn (k:=?_)
      refine tk 17 hX (k:=?_)
      refine tk 18 hX (k:=?_)
      refine dt 19 hX (k:=?_)
      repeat' (first|(refine stA hs (k:=?_);intro w hs)|refine Nx.h ?_|fail)
      refine dn (k:=?_)
      refine en (k:=?_)
      skip
      first | refine rt' (vs:=[]) (hr:=resOk_nil) (hq:=?_) | refine rt (vs:=[]) (hr:=resOk_nil) (hq:=?_)
      exact fin _ _ (hs.get (At.tail (At.tail At.head))) rfl (hs.onlyF [b] (by simp [hT,hlb,hrb]) (by simp [D0]))
end Go.Proofs.YtalffooghioekaaGreatDoorX.IB

namespace Go.Proofs.YtalffooghioekaaGreatDoorX.IB
open Go Go.RowKit
attribute [local irreducible] XS XC XA thenE blockE retE loopE loopS cutB cutN doneE SE
theorem Nodes.lt {w:World} {F:List Nat} (h:Nodes w F):∀ k∈F,k < w.heap.size:=fun k hk=>by
  obtain ⟨cs,fz,h⟩:=h k hk
  exact lt_of_block h
def Turned (w0:World) (fp:List Nat) (t':RB IT) (v:Value) (w':World):Prop :=
  ∃ p' fp',v = .pointer p'∧TreeAt w' t' p' fp'∧fp'.Nodup∧(∀ k∈fp',k∈fp∨w0.heap.size≤k)∧Only fp w0 w'
theorem toLeft_ret (tb:Nat) (p0:Option Addr) (n0:Int) (l:RB IT) (x:IT) (rl:RB IT) (y:IT) (rr:RB IT) (c c2:Bool) (p:Option Addr) (fp:List Nat) (w0:World) (hT:w0.heap[tb]?=some (treeO p0 n0)) (h:StaleAt w0 l x (.node rl y rr c2) c p fp) (hnd:fp.Nodup) (hlen:(l.list ++ x :: (rl.list ++ y :: rr.list)).length≤1000000) :
    Ret Tryz.prog 271 #[.pointer (some ⟨tb,0,none⟩),.pointer p] w0 fun v w'=>Turned w0 fp (.node (.node l x rl true) y rr c) v w':=by
  obtain ⟨b,av,pl,pr,fl,fr,rfl,rfl,hb,hl,u,avu,prl,prr,frl,frr,rfl,rfl,hu,_,hrl,hrr⟩:=h
  have hp:=perm_turn b u fl frl frr
  have hnd':=hp.nodup_iff.2 hnd
  have hNb:Nodes w0 [u,b]:=Nodes.cons hu (Nodes.cons hb (Nodes.nil w0))
  simp only [List.length_append,List.length_cons] at hlen
  obtain ⟨d1,d2,d3,d4,d5,d6,d7,d8⟩:u≠b∧(∀ k∈fl,k∉[u,b])∧(∀ k∈frl,k∉[u,b])∧(∀ k∈frr,k∉[u,b])∧(b :: (fl ++ frl)).Nodup∧u∉b :: (fl ++ frl)∧(∀ k∈frr,k∉b :: (fl ++ frl))∧(u :: ((b :: (fl ++ frl)) ++ frr)).Nodup:=by
    simp only [List.cons_append,List.append_assoc,List.nodup_cons,List.nodup_append,List.mem_append,List.mem_cons,List.not_mem_nil,or_false] at hnd' ⊢
    grind
  have hs:=St.nil w0
  replace hs:=hs.track hb (by simp)
  replace hs:=hs.track hu (by simpa using d1)
  refine ret_of_xc Tryz.func271 (by kernel_rfl) rfl Tryz.ntmps271 rfl rfl rfl ?_
  repeat' (first|refine vs (k:=?_)|(refine st hs (k:=?_);intro w hs)|refine qRg ?_|refine Nx.h ?_|fail)
  have ho1:Only [u,b] w0 _:=hs.onlyF [u,b] (by simp) (by simp [D0])
  have hbw:=hs.get (At.tail At.head)
  have huw:=hs.get At.head
  have hlw:=hl.keep ho1 hNb d2
  have hrlw:=hrl.keep ho1 hNb d3
  have hrrw:=hrr.keep ho1 hNb d4
  have hTw:=head_keep hT ho1 hNb
  clear hs
  (with_reducible apply xs_call);exact rfl;exact rfl;exact rbSum_ret tb p0 n0 l x rl true _ _ _ hTw ⟨b,av,pl,prl,fl,frl,rfl,rfl,hbw,hlw,hrlw⟩ d5 (by simp only [List.length_append,List.length_cons];omega)
  rintro v w' ⟨hT1,ho2⟩
  have hN2:Nodes _ (b :: (fl ++ frl)):=StaleAt.nodes ⟨b,av,pl,prl,fl,frl,rfl,rfl,hbw,hlw,hrlw⟩
  have hu2:=ho2.block huw d6
  have hrr2:=hrrw.keep ho2 hN2 d7
  have hT2:=head_keep hTw ho2 hN2
  have hs:=St.nil w'
  repeat' (first|refine vs (k:=?_)|refine qRg ?_|refine Nx.h ?_|fail)
  (with_reducible apply xs_call);exact rfl;exact rfl;exact rbSum_ret tb p0 n0 (.node l x rl true) y rr c _ _ _ hT2 ⟨u,avu,_,prr,_,frr,rfl,rfl,hu2,hT1,hrr2⟩ d8 (by simp only [RB.list,List.length_append,List.length_cons];omega)
  rintro v w'' ⟨hT3,ho3⟩
  have hs:=St.nil w''
  repeat' (first|refine vs (k:=?_)|refine qRg ?_|refine Nx.h ?_|fail)
  first | refine rt (hq:=?_) | refine rt' (hq:=?_)
  have e:∀ k,k∈u :: ((b :: (fl ++ frl)) ++ frr)→k∈b :: (fl ++ (u :: (frl ++ frr))):=fun k hk=>hp.mem_iff.1 hk
  have o1:Only (b :: (fl ++ (u :: (frl ++ frr)))) w0 _:=ho1.weaken (by simp)
  have o2:=o1.step ho2 (fun k hk => .inl (e k (List.mem_cons_of_mem _ (List.mem_append_left _ hk))))
  exact ⟨_,_,rfl,hT3,d8,fun k hk => .inl (e k hk),o2.step ho3 (fun k hk => .inl (e k hk))⟩
theorem toRight_ret (tb:Nat) (p0:Option Addr) (n0:Int) (ll:RB IT) (y:IT) (lr:RB IT) (x:IT) (r:RB IT) (c c2:Bool) (p:Option Addr) (fp:List Nat) (w0:World) (hT:w0.heap[tb]?=some (treeO p0 n0)) (h:StaleAt w0 (.node ll y lr c2) x r c p fp) (hnd:fp.Nodup) (hlen:(ll.list ++ y :: (lr.list ++ x :: r.list)).length≤1000000) :
    Ret Tryz.prog 265 #[.pointer (some ⟨tb,0,none⟩),.pointer p] w0 fun v w'=>Turned w0 fp (.node ll y (.node lr x r true) c) v w':=by
  obtain ⟨b,av,pl,pr,fl,fr,rfl,rfl,hb,⟨u,avu,pll,plr,fll,flr,rfl,rfl,hu,_,hll,hlr⟩,hr⟩:=h
  have hp:=(perm_turn u b fll flr fr).symm
  have hnd':=hp.nodup_iff.2 hnd
  have hNb:Nodes w0 [u,b]:=Nodes.cons hu (Nodes.cons hb (Nodes.nil w0))
  simp only [List.length_append,List.length_cons] at hlen
  obtain ⟨d1,d2,d3,d4,d5,d6,d7,d8⟩:u≠b∧(∀ k∈fr,k∉[u,b])∧(∀ k∈flr,k∉[u,b])∧(∀ k∈fll,k∉[u,b])∧(b :: (flr ++ fr)).Nodup∧u∉b :: (flr ++ fr)∧(∀ k∈fll,k∉b :: (flr ++ fr))∧(u :: (fll ++ (b :: (flr ++ fr)))).Nodup:=by
    simp only [List.cons_append,List.append_assoc,List.nodup_cons,List.nodup_append,List.mem_append,List.mem_cons,List.not_mem_nil,or_false] at hnd' ⊢
    grind
  have hs:=St.nil w0
  replace hs:=hs.track hb (by simp)
  replace hs:=hs.track hu (by simpa using d1)
  refine ret_of_xc Tryz.func265 (by kernel_rfl) rfl Tryz.ntmps265 rfl rfl rfl ?_
  repeat' (first|refine vs (k:=?_)|(refine st hs (k:=?_);intro w hs)|refine qRg ?_|refine Nx.h ?_|fail)
  have ho1:Only [u,b] w0 _:=hs.onlyF [u,b] (by simp) (by simp [D0])
  have hbw:=hs.get (At.tail At.head)
  have huw:=hs.get At.head
  have hrw:=hr.keep ho1 hNb d2
  have hlrw:=hlr.keep ho1 hNb d3
  have hllw:=hll.keep ho1 hNb d4
  have hTw:=head_keep hT ho1 hNb
  clear hs
  (with_reducible apply xs_call);exact rfl;exact rfl;exact rbSum_ret tb p0 n0 lr x r true _ _ _ hTw ⟨b,av,plr,pr,flr,fr,rfl,rfl,hbw,hlrw,hrw⟩ d5 (by simp only [List.length_append,List.length_cons];omega)
  rintro v w' ⟨hT1,ho2⟩
  have hN2:Nodes _ (b :: (flr ++ fr)):=StaleAt.nodes ⟨b,av,plr,pr,flr,fr,rfl,rfl,hbw,hlrw,hrw⟩
  have hu2:=ho2.block huw d6
  have hll2:=hllw.keep ho2 hN2 d7
  have hT2:=head_keep hTw ho2 hN2
  have hs:=St.nil w'
  repeat' (first|refine vs (k:=?_)|refine qRg ?_|refine Nx.h ?_|fail)
  (with_reducible apply xs_call);exact rfl;exact rfl;exact rbSum_ret tb p0 n0 ll y (.node lr x r true) c _ _ _ hT2 ⟨u,avu,pll,_,fll,_,rfl,rfl,hu2,hll2,hT1⟩ d8 (by simp only [RB.list,List.length_append,List.length_cons];omega)
  rintro v w'' ⟨hT3,ho3⟩
  have hs:=St.nil w''
  repeat' (first|refine vs (k:=?_)|refine qRg ?_|refine Nx.h ?_|fail)
  first | refine rt (hq:=?_) | refine rt' (hq:=?_)
  have e:∀ k,k∈u :: (fll ++ (b :: (flr ++ fr)))→k∈b :: ((u :: (fll ++ flr)) ++ fr):=fun k hk=>hp.mem_iff.1 hk
  have o1:Only (b :: ((u :: (fll ++ flr)) ++ fr)) w0 _:=ho1.weaken (by simp)
  have o2:=o1.step ho2 (fun k hk => .inl (e k (List.mem_cons_of_mem _ (List.mem_append_right _ hk))))
  exact ⟨_,_,rfl,hT3,d8,fun k hk => .inl (e k hk),o2.step ho3 (fun k hk => .inl (e k hk))⟩
theorem rbFlip_ret (a:RB IT) (x:IT) (b:RB IT) (c1:Bool) (y:IT) (d:RB IT) (z:IT) (e:RB IT) (c2 c:Bool) (p:Option Addr) (fp:List Nat) (w0:World) (h:TreeAt w0 (.node (.node a x b c1) y (.node d z e c2) c) p fp) (hnd:fp.Nodup) :
    Ret Tryz.prog 272 #[.pointer p] w0 fun v w'=>TreeAt w' (.node (.node a x b !c1) y (.node d z e !c2) !c) p fp∧Only fp w0 w':=by
  obtain ⟨m,av,_,_,_,_,rfl,rfl,hm,hav,⟨u,avu,pa,pb,fa,fb,rfl,rfl,hu,hau,ha,hb⟩,⟨v,avv,pd,pe,fd,fe,rfl,rfl,hv,hav2,hd,he⟩⟩:=h
  have hNb:Nodes w0 [v,u,m]:=Nodes.cons hv (Nodes.cons hu (Nodes.cons hm (Nodes.nil w0)))
  obtain ⟨d1,d2,d3,d4,d5,d6,d7⟩:u≠m∧v≠m∧v≠u∧(∀ k∈fa,k∉[v,u,m])∧(∀ k∈fb,k∉[v,u,m])∧(∀ k∈fd,k∉[v,u,m])∧(∀ k∈fe,k∉[v,u,m]):=by
    simp only [List.cons_append,List.append_assoc,List.nodup_cons,List.nodup_append,List.mem_append,List.mem_cons,List.not_mem_nil,or_false] at hnd ⊢
    grind
  have hs:=St.nil w0
  replace hs:=hs.track hm (by simp)
  replace hs:=hs.track hu (by simpa using d1)
  replace hs:=hs.track hv (by simp [d2,d3])
  refine ret_of_xc Tryz.func272 (by kernel_rfl) rfl Tryz.ntmps272 rfl rfl rfl ?_
  repeat' (first|refine vs (k:=?_)|(refine st hs (k:=?_);intro w hs)|refine qRg ?_|refine Nx.h ?_|fail)
  refine dr [14] hs (k:=?_);intro hX w hs
  refine tk 0 hX (k:=?_)
  refine tk 1 hX (k:=?_)
  refine tk 2 hX (k:=?_)
  refine tk 3 hX (k:=?_)
  refine tk 4 hX (k:=?_)
  refine tk 5 hX (k:=?_)
  refine tk 6 hX (k:=?_)
  refine tk 7 hX (k:=?_)
  refine tk 8 hX (k:=?_)
  refine tk 9 hX (k:=?_)
  refine tk 10 hX (k:=?_)
  refine tk 11 hX (k:=?_)
  refine tk 12 hX (k:=?_)
  refine tk 13 hX (k:=?_)
  refine dt 14 hX (k:=?_)
  repeat' (first|(refine st hs (k:=?_);intro w hs)|refine Nx.h ?_|fail)
  refine dn (k:=?_)
  refine en (k:=?_)
  repeat' (first|refine Nx.h ?_|fail)
  refine dr [14] hs (k:=?_);intro hX w hs
  refine tk 0 hX (k:=?_)
  refine tk 1 hX (k:=?_)
  refine tk 2 hX (k:=?_)
  refine tk 3 hX (k:=?_)
  refine tk 4 hX (k:=?_)
  refine tk 5 hX (k:=?_)
  refine tk 6 hX (k:=?_)
  refine tk 7 hX (k:=?_)
  refine tk 8 hX (k:=?_)
  refine tk 9 hX (k:=?_)
  refine tk 10 hX (k:=?_)
  refine tk 11 hX (k:=?_)
  refine tk 12 hX (k:=?_)
  refine tk 13 hX (k:=?_)
  refine dt 14 hX (k:=?_)
  repeat' (first|(refine st hs (k:=?_);intro w hs)|refine Nx.h ?_|fail)
  refine dn (k:=?_)
  refine en (k:=?_)
  skip
  first | refine rt' (vs:=[]) (hr:=resOk_nil) (hq:=?_) | refine rt (vs:=[]) (hr:=resOk_nil) (hq:=?_)
  have ho1:Only [v,u,m] w0 _:=hs.onlyF [v,u,m] (by simp) (by simp [D0])
  refine ⟨⟨m,av,_,_,_,_,rfl,rfl,hs.get (At.tail (At.tail At.head)),hav.keep ho1 hNb,⟨u,avu,pa,pb,fa,fb,rfl,rfl,hs.get (At.tail At.head),hau.keep ho1 hNb,ha.keep ho1 hNb d4,hb.keep ho1 hNb d5⟩,⟨v,avv,pd,pe,fd,fe,rfl,rfl,hs.get At.head,hav2.keep ho1 hNb,hd.keep ho1 hNb d6,he.keep ho1 hNb d7⟩⟩,ho1.weaken (by simp)⟩
end Go.Proofs.YtalffooghioekaaGreatDoorX.IB

namespace Go.Proofs.YtalffooghioekaaGreatDoorX.IB
open Go Go.RowKit
attribute [local irreducible] XS XC XA thenE blockE retE loopE loopS cutB cutN doneE SE
structure Has (w0:World) (tb:Nat) (p0:Option Addr) (n0:Int) (fp:List Nat) (t:RB IT) (p:Option Addr) (w:World):Prop where
  tree:∃ fp',TreeAt w t p fp'∧fp'.Nodup∧(∀ k∈fp',k∈fp∨w0.heap.size≤k)∧Only fp w0 w
  head:w.heap[tb]?=some (treeO p0 n0)
theorem Has.only {w0 w w':World} {tb:Nat} {p0:Option Addr} {n0:Int} {fp:List Nat} {t:RB IT} {p:Option Addr} (h:Has w0 tb p0 n0 fp t p w) (ho:Only [] w w'):Has w0 tb p0 n0 fp t p w':=by
  obtain ⟨⟨fp',h1,h2,h3,h4⟩,h5⟩:=h
  exact ⟨⟨fp',h1.keep ho (Nodes.nil w) (fun k _=>by simp),h2,h3,h4.step ho (by simp)⟩,head_keep h5 ho (Nodes.nil w)⟩
theorem Has.next {w0 w w':World} {tb:Nat} {p0:Option Addr} {n0:Int} {fp fp1:List Nat} {t t':RB IT} {p:Option Addr} {v:Value} (h1:TreeAt w t p fp1) (h2:∀ k∈fp1,k∈fp∨w0.heap.size≤k) (h3:Only fp w0 w) (h4:w.heap[tb]?=some (treeO p0 n0)) (k:Turned w fp1 t' v w') :
    ∃ p',v = .pointer p'∧Has w0 tb p0 n0 fp t' p' w':=by
  obtain ⟨p',fp',rfl,k1,k2,k3,k4⟩:=k
  refine ⟨p',rfl,⟨fp',k1,k2,fun i hi=>?_,h3.step k4 h2⟩,head_keep h4 k4 h1.nodes⟩
  have:=h3.size
  rcases k3 i hi with h | h
  · exact h2 i h
  · exact .inr (by omega)
theorem mend1_node (l:RB IT) (x:IT) (r:RB IT) (c:Bool):∃ l' x' r' c',RB.mend1 (.node l x r c) = .node l' x' r' c':=by
  unfold RB.mend1
  cases r with
  | nil=>exact ⟨_,_,_,_,rfl⟩
  | node rl y rr d =>
    cases d <;> cases h:l.red <;> simp only [RB.right_node,RB.left_node,RB.red_node,h,Bool.not_true,Bool.not_false,Bool.and_true,Bool.and_false,Bool.and_self,cond_true,cond_false,RB.toLeft] <;> exact ⟨_,_,_,_,rfl⟩
theorem mend2_node (l:RB IT) (x:IT) (r:RB IT) (c:Bool):∃ l' x' r' c',RB.mend2 (.node l x r c) = .node l' x' r' c':=by
  unfold RB.mend2
  cases l with
  | nil=>exact ⟨_,_,_,_,rfl⟩
  | node rl y rr d =>
    cases d <;> cases h:rl.red <;> simp only [RB.right_node,RB.left_node,RB.red_node,h,Bool.not_true,Bool.not_false,Bool.and_true,Bool.and_false,Bool.and_self,cond_true,cond_false,RB.toRight] <;> exact ⟨_,_,_,_,rfl⟩
set_option maxHeartbeats 2000000 in
theorem mend_ret (tb:Nat) (p0:Option Addr) (n0:Int) (l:RB IT) (x:IT) (r:RB IT) (c:Bool) (p:Option Addr) (fp:List Nat) (w0:World) (hT:w0.heap[tb]?=some (treeO p0 n0)) (h:StaleAt w0 l x r c p fp) (hnd:fp.Nodup) (hlen:(l.list ++ x :: r.list).length≤1000000) :
    Ret Tryz.prog 261 #[.pointer (some ⟨tb,0,none⟩),.pointer p] w0 fun v w'=>Turned w0 fp (RB.mend (.node l x r c)) v w':=by
  have hs:=St.nil w0
  refine ret_of_xc Tryz.func261 (by kernel_rfl) rfl Tryz.ntmps261 rfl rfl rfl ?_
  repeat' (first|refine vs (k:=?_)|refine qRg ?_|refine Nx.h ?_|fail)
  clear hs
  (with_reducible apply xs_call);exact rfl;exact rfl;exact rbSum_ret tb p0 n0 l x r c _ _ _ hT h hnd hlen
  rintro v w1 ⟨hT1,ho1⟩
  have hH:Has w0 tb p0 n0 fp (.node l x r c) p w1:=⟨⟨fp,hT1,hnd,fun k hk => .inl hk,ho1⟩,head_keep hT ho1 h.nodes⟩
  clear hT1 ho1
  refine XS.nil ?_
  refine then_of ?_
  refine xc_seq ?_
  refine xc_seq ?_
  refine xc_cutN (fun _:Unit=>[(0,.pointer (some ⟨tb,0,none⟩)),(1,.pointer p),(4,.pointer none),(20,.bool (r.red && !l.red))]) (fun _ w=>Has w0 tb p0 n0 fp (.node l x r c) p w) ?_ ?_
  · obtain ⟨⟨fp1,⟨b,av,pl,pr,fl,fr,rfl,rfl,hb,hav,hl,hr⟩,hnd1,hsub,ho⟩,hd⟩:=hH
    have hH:Has w0 tb p0 n0 fp (.node l x r c) (some ⟨b,0,none⟩) w1:=⟨⟨_,⟨b,av,pl,pr,fl,fr,rfl,rfl,hb,hav,hl,hr⟩,hnd1,hsub,ho⟩,hd⟩
    have hs:=(St.nil w1).track hb (by simp)
    repeat' (first|refine vs (k:=?_)|refine qRg ?_|fail)
    have ho2:Only [] w1 _:=hs.onlyF [] (by simp [hb]) (by simp [D0])
    (with_reducible apply xs_call);exact rfl;exact rfl;exact isRed_ret r pr fr _ (hr.keep ho2 (Nodes.nil _) (by simp))
    rintro v w' ⟨rfl,ho⟩;replace hs:=hs.call0 ho
    generalize hq:r.red=q
    cases q
    · repeat' (first|refine vs (k:=?_)|refine ps (k:=?_)|refine Nx.h ?_|fail)
      exact cutN_normal () (by (repeat (first | exact agree_nil | (apply agree_cons;exact rfl)))) (hH.only (hs.onlyF [] (by simp [hb]) (by simp [D0])))
    · repeat' (first|refine vs (k:=?_)|fail)
      have ho2:Only [] w1 _:=hs.onlyF [] (by simp [hb]) (by simp [D0])
      (with_reducible apply xs_call);exact rfl;exact rfl;exact isRed_ret l pl fl _ (hl.keep ho2 (Nodes.nil _) (by simp))
      rintro v w' ⟨rfl,ho⟩;replace hs:=hs.call0 ho
      generalize hq2:l.red=q2
      repeat' (first|refine vs (k:=?_)|refine Nx.h ?_|fail)
      exact cutN_normal () (by (repeat (first | exact agree_nil | (apply agree_cons;exact rfl)))) (hH.only (hs.onlyF [] (by simp [hb]) (by simp [D0])))
  clear hH
  rintro _ env w hH
  refine xc_cutN (fun s:Option Addr=>[(0,.pointer (some ⟨tb,0,none⟩)),(1,.pointer s),(4,.pointer none)]) (fun s w=>Has w0 tb p0 n0 fp (RB.mend1 (.node l x r c)) s w) ?_ ?_
  · generalize hq:(r.red && !l.red)=q
    cases q
    · repeat' (first|refine Nx.h ?_|refine qCf ?_|fail)
      refine cutN_normal p (by (repeat (first | exact agree_nil | (apply agree_cons;exact rfl)))) ?_
      unfold RB.mend1
      rw [RB.right_node,RB.left_node,hq]
      exact hH
    · obtain ⟨⟨fp1,h1,h2,h3,h4⟩,h5⟩:=hH
      simp only [Bool.and_eq_true,Bool.not_eq_true'] at hq
      obtain ⟨rl,y,rr,rfl⟩:=RB.red_true hq.1
      have hs:=St.nil w
      repeat' (first|refine vs (k:=?_)|refine qRg ?_|refine qCt ?_|fail)
      (with_reducible apply xs_call);exact rfl;exact rfl;exact toLeft_ret tb p0 n0 l x rl y rr c true _ _ _ h5 h1.stale h2 hlen
      rintro v w' hv
      obtain ⟨p',rfl,hH⟩:=Has.next h1 h3 h4 h5 hv
      have hs:=St.nil w'
      repeat' (first|refine vs (k:=?_)|refine Nx.h ?_|fail)
      refine cutN_normal p' (by (repeat (first | exact agree_nil | (apply agree_cons;exact rfl)))) ?_
      unfold RB.mend1
      rw [RB.right_node,RB.left_node,RB.red_node,hq.2]
      exact hH
  obtain ⟨l1,x1,r1,c1,e1⟩:=mend1_node l x r c
  have hlen1:(l1.list ++ x1 :: r1.list).length≤1000000:=by
    have h1:(RB.mend1 (.node l x r c)).list=l.list ++ x :: r.list:=by
      unfold RB.mend1
      cases (RB.red _ && _) <;> simp only [cond_true,cond_false,RB.list_toLeft,RB.list]
    rw [e1] at h1
    rw [← h1] at hlen
    exact hlen
  rintro p1 env w hH
  rw [e1] at hH
  refine xc_seq ?_
  refine xc_seq ?_
  refine xc_cutN (fun _:Unit=>[(0,.pointer (some ⟨tb,0,none⟩)),(1,.pointer p1),(4,.pointer none),(38,.bool (l1.red && l1.left.red))]) (fun _ w=>Has w0 tb p0 n0 fp (.node l1 x1 r1 c1) p1 w) ?_ ?_
  · obtain ⟨⟨fp1,⟨b,av,pl,pr,fl,fr,rfl,rfl,hb,hav,hl,hr⟩,hnd1,hsub,ho⟩,hd⟩:=hH
    have hH:Has w0 tb p0 n0 fp (.node l1 x1 r1 c1) (some ⟨b,0,none⟩) w:=⟨⟨_,⟨b,av,pl,pr,fl,fr,rfl,rfl,hb,hav,hl,hr⟩,hnd1,hsub,ho⟩,hd⟩
    cases hq:l1.red
    · have hs:=(St.nil w).track hb (by simp)
      repeat' (first|refine vs (k:=?_)|refine qRg ?_|fail)
      have ho2:Only [] w _:=hs.onlyF [] (by simp [hb]) (by simp [D0])
      (with_reducible apply xs_call);exact rfl;exact rfl;exact isRed_ret l1 pl fl _ (hl.keep ho2 (Nodes.nil _) (by simp))
      rintro v w' ⟨rfl,ho⟩;replace hs:=hs.call0 ho
      rw [hq]
      repeat' (first|refine vs (k:=?_)|refine ps (k:=?_)|refine Nx.h ?_|fail)
      exact cutN_normal () (by (repeat (first | exact agree_nil | (apply agree_cons;exact rfl)))) (hH.only (hs.onlyF [] (by simp [hb]) (by simp [D0])))
    · obtain ⟨ll,y,lr,rfl⟩:=RB.red_true hq
      have hl0:=hl
      obtain ⟨u,avu,pll,plr,fll,flr,rfl,rfl,hu,hau,hll,hlr⟩:=hl
      have hub:u≠b:=fun e=>by
        subst e
        simp at hnd1
      have hs:=((St.nil w).track hb (by simp)).track hu (by simpa using hub)
      repeat' (first|refine vs (k:=?_)|refine qRg ?_|fail)
      have ho2:Only [] w _:=hs.onlyF [] (by simp [hb,hu]) (by simp [D0])
      (with_reducible apply xs_call);exact rfl;exact rfl;exact isRed_ret _ _ _ _ (hl0.keep ho2 (Nodes.nil _) (by simp))
      rintro v w' ⟨rfl,ho⟩;replace hs:=hs.call0 ho
      rw [hq]
      repeat' (first|refine vs (k:=?_)|fail)
      have ho2:Only [] w _:=hs.onlyF [] (by simp [hb,hu]) (by simp [D0])
      (with_reducible apply xs_call);exact rfl;exact rfl;exact isRed_ret _ _ _ _ (hll.keep ho2 (Nodes.nil _) (by simp))
      rintro v w' ⟨rfl,ho⟩;replace hs:=hs.call0 ho
      rw [RB.left_node]
      generalize hq2:ll.red=q2
      repeat' (first|refine vs (k:=?_)|refine Nx.h ?_|fail)
      exact cutN_normal () (by (repeat (first | exact agree_nil | (apply agree_cons;exact rfl)))) (hH.only (hs.onlyF [] (by simp [hb,hu]) (by simp [D0])))
  clear hH
  rintro _ env w hH
  refine xc_cutN (fun s:Option Addr=>[(0,.pointer (some ⟨tb,0,none⟩)),(1,.pointer s),(4,.pointer none)]) (fun s w=>Has w0 tb p0 n0 fp (RB.mend2 (.node l1 x1 r1 c1)) s w) ?_ ?_
  · generalize hq:(l1.red && l1.left.red)=q
    cases q
    · repeat' (first|refine Nx.h ?_|refine qCf ?_|fail)
      refine cutN_normal p1 (by (repeat (first | exact agree_nil | (apply agree_cons;exact rfl)))) ?_
      unfold RB.mend2
      rw [RB.left_node,hq]
      exact hH
    · obtain ⟨⟨fp1,h1,h2,h3,h4⟩,h5⟩:=hH
      simp only [Bool.and_eq_true] at hq
      obtain ⟨ll,y,lr,rfl⟩:=RB.red_true hq.1
      have hs:=St.nil w
      repeat' (first|refine vs (k:=?_)|refine qRg ?_|refine qCt ?_|fail)
      (with_reducible apply xs_call);exact rfl;exact rfl;exact toRight_ret tb p0 n0 ll y lr x1 r1 c1 true _ _ _ h5 h1.stale h2 (by simpa [RB.list] using hlen1)
      rintro v w' hv
      obtain ⟨p',rfl,hH⟩:=Has.next h1 h3 h4 h5 hv
      have hs:=St.nil w'
      repeat' (first|refine vs (k:=?_)|refine Nx.h ?_|fail)
      refine cutN_normal p' (by (repeat (first | exact agree_nil | (apply agree_cons;exact rfl)))) ?_
      unfold RB.mend2
      rw [RB.left_node,RB.red_node,hq.2]
      exact hH
  obtain ⟨l2,x2,r2,c2,e2⟩:=mend2_node l1 x1 r1 c1
  rintro p2 env w hH
  rw [e2] at hH
  refine xc_seq ?_
  refine xc_seq ?_
  refine xc_cutN (fun _:Unit=>[(0,.pointer (some ⟨tb,0,none⟩)),(1,.pointer p2),(4,.pointer none),(53,.bool (l2.red && r2.red))]) (fun _ w=>Has w0 tb p0 n0 fp (.node l2 x2 r2 c2) p2 w) ?_ ?_
  · obtain ⟨⟨fp1,⟨b,av,pl,pr,fl,fr,rfl,rfl,hb,hav,hl,hr⟩,hnd1,hsub,ho⟩,hd⟩:=hH
    have hH:Has w0 tb p0 n0 fp (.node l2 x2 r2 c2) (some ⟨b,0,none⟩) w:=⟨⟨_,⟨b,av,pl,pr,fl,fr,rfl,rfl,hb,hav,hl,hr⟩,hnd1,hsub,ho⟩,hd⟩
    have hs:=(St.nil w).track hb (by simp)
    repeat' (first|refine vs (k:=?_)|refine qRg ?_|fail)
    have ho2:Only [] w _:=hs.onlyF [] (by simp [hb]) (by simp [D0])
    (with_reducible apply xs_call);exact rfl;exact rfl;exact isRed_ret l2 pl fl _ (hl.keep ho2 (Nodes.nil _) (by simp))
    rintro v w' ⟨rfl,ho⟩;replace hs:=hs.call0 ho
    generalize hq:l2.red=q
    cases q
    · repeat' (first|refine vs (k:=?_)|refine ps (k:=?_)|refine Nx.h ?_|fail)
      exact cutN_normal () (by (repeat (first | exact agree_nil | (apply agree_cons;exact rfl)))) (hH.only (hs.onlyF [] (by simp [hb]) (by simp [D0])))
    · repeat' (first|refine vs (k:=?_)|fail)
      have ho2:Only [] w _:=hs.onlyF [] (by simp [hb]) (by simp [D0])
      (with_reducible apply xs_call);exact rfl;exact rfl;exact isRed_ret r2 pr fr _ (hr.keep ho2 (Nodes.nil _) (by simp))
      rintro v w' ⟨rfl,ho⟩;replace hs:=hs.call0 ho
      generalize hq2:r2.red=q2
      repeat' (first|refine vs (k:=?_)|refine Nx.h ?_|fail)
      exact cutN_normal () (by (repeat (first | exact agree_nil | (apply agree_cons;exact rfl)))) (hH.only (hs.onlyF [] (by simp [hb]) (by simp [D0])))
  clear hH
  rintro _ env w hH
  refine xc_cutN (fun _:Unit=>[(0,.pointer (some ⟨tb,0,none⟩)),(1,.pointer p2),(4,.pointer none)]) (fun _ w=>Has w0 tb p0 n0 fp (RB.mend3 (.node l2 x2 r2 c2)) p2 w) ?_ ?_
  · generalize hq:(l2.red && r2.red)=q
    cases q
    · repeat' (first|refine Nx.h ?_|refine qCf ?_|fail)
      refine cutN_normal () (by (repeat (first | exact agree_nil | (apply agree_cons;exact rfl)))) ?_
      unfold RB.mend3
      rw [RB.left_node,RB.right_node,hq]
      exact hH
    · obtain ⟨⟨fp1,h1,h2,h3,h4⟩,h5⟩:=hH
      simp only [Bool.and_eq_true] at hq
      obtain ⟨ll,y,lr,rfl⟩:=RB.red_true hq.1
      obtain ⟨rl,z,rr,rfl⟩:=RB.red_true hq.2
      have hs:=St.nil w
      repeat' (first|refine vs (k:=?_)|refine qRg ?_|refine qCt ?_|fail)
      (with_reducible apply xs_call);exact rfl;exact rfl;exact rbFlip_ret ll y lr true x2 rl z rr true c2 p2 fp1 _ h1 h2
      rintro v w' ⟨k1,k2⟩
      have hs:=St.nil w'
      repeat' (first|refine Nx.h ?_|fail)
      refine cutN_normal () (by (repeat (first | exact agree_nil | (apply agree_cons;exact rfl)))) ⟨⟨fp1,k1,h2,h3,h4.step k2 h3⟩,head_keep h5 k2 h1.nodes⟩
  rintro _ env w hH
  have e3:RB.mend3 (.node l2 x2 r2 c2)=RB.mend (.node l x r c):=by rw [← e2,← e1];rfl
  rw [e3] at hH
  have hs:=St.nil w
  obtain ⟨⟨fp1,h1,h2,h3,h4⟩,h5⟩:=hH
  repeat' (first|refine vs (k:=?_)|refine qRg ?_|refine Nx.h ?_|fail)
  first | refine rt (hq:=?_) | refine rt' (hq:=?_)
  exact ⟨_,fp1,rfl,h1,h2,h3,h4.step (hs.only0 rfl) (by simp)⟩
end Go.Proofs.YtalffooghioekaaGreatDoorX.IB

namespace Go.Proofs.YtalffooghioekaaGreatDoorX.IB
open Go Go.RowKit
attribute [local irreducible] XS XC XA thenE blockE retE loopE loopS cutB cutN doneE SE
theorem Turned.up {w0 w2 w3:World} {fp fp2:List Nat} {t:RB IT} {v:Value} (k:Turned w2 fp2 t v w3) (ho:Only fp w0 w2) (hs:∀ k∈fp2,k∈fp∨w0.heap.size≤k):Turned w0 fp t v w3:=by
  obtain ⟨p',fp',rfl,k1,k2,k3,k4⟩:=k
  refine ⟨p',fp',rfl,k1,k2,fun i hi=>?_,ho.step k4 hs⟩
  have:=ho.size
  rcases k3 i hi with h | h
  · exact hs i h
  · exact .inr (by omega)
theorem graftL {w w' w2:World} {b:Nat} {y y2:IT} {av av2:It} {pl pr p':Option Addr} {c c2:Bool} {fl fr:List Nat} {r l':RB IT} (hb:w.heap[b]?=some (nodeO y av pl pr c)) (hl:Nodes w fl) (hr:TreeAt w r pr fr) (hnd:(b :: (fl ++ fr)).Nodup)
    (k:Turned w fl l' (.pointer p') w') (ho:Only [b] w' w2) (hb2:w2.heap[b]?=some (nodeO y2 av2 p' pr c2)) :
    ∃ fp2,StaleAt w2 l' y2 r c2 (some ⟨b,0,none⟩) fp2∧fp2.Nodup∧(∀ i∈fp2,i∈b :: (fl ++ fr)∨w.heap.size≤i)∧Only (b :: (fl ++ fr)) w w2:=by
  obtain ⟨p,fp',e,k1,k2,k3,k4⟩:=k
  obtain rfl:p'=p:=by injection e
  have hbs:=lt_of_block hb
  have hrs:=hr.nodes.lt
  simp only [List.nodup_cons,List.nodup_append,List.mem_append] at hnd
  obtain ⟨d1,d2,d3,d4⟩:=hnd
  have e1:b∉fp':=fun hm=>by
    rcases k3 b hm with h | h
    · exact d1 (.inl h)
    · omega
  have e2:∀ i∈fr,i∉fl:=fun i hi hm=>d4 i hm i hi rfl
  have hb1:=k4.block hb (fun h=>d1 (.inl h))
  have hN:Nodes w' [b]:=Nodes.cons hb1 (Nodes.nil w')
  refine ⟨b :: (fp' ++ fr),⟨b,av2,p',pr,fp',fr,rfl,rfl,hb2,k1.keep ho hN (fun i hi hm=>?_),(hr.keep k4 hl e2).keep ho hN (fun i hi hm=>?_)⟩,?_,?_,?_⟩
  · obtain rfl:=List.mem_singleton.1 hm;exact e1 hi
  · obtain rfl:=List.mem_singleton.1 hm;exact d1 (.inr hi)
  · simp only [List.nodup_cons,List.nodup_append,List.mem_append]
    refine ⟨fun h=>?_,k2,d3,fun i hi j hj hij=>?_⟩
    · rcases h with h | h
      · exact e1 h
      · exact d1 (.inr h)
    · subst hij
      rcases k3 i hi with h | h
      · exact d4 i h i hj rfl
      · have:=hrs i hj;omega
  · intro i hi
    rcases List.mem_cons.1 hi with rfl | hi
    · exact .inl List.mem_cons_self
    · rcases List.mem_append.1 hi with hi | hi
      · rcases k3 i hi with h | h
        · exact .inl (List.mem_cons_of_mem _ (List.mem_append_left _ h))
        · exact .inr h
      · exact .inl (List.mem_cons_of_mem _ (List.mem_append_right _ hi))
  · exact (k4.weaken (fun i hi=>List.mem_cons_of_mem _ (List.mem_append_left _ hi))).step ho (fun i hi => .inl (by obtain rfl:=List.mem_singleton.1 hi;exact List.mem_cons_self))
theorem graftR {w w' w2:World} {b:Nat} {y y2:IT} {av av2:It} {pl pr p':Option Addr} {c c2:Bool} {fl fr:List Nat} {l r':RB IT} (hb:w.heap[b]?=some (nodeO y av pl pr c)) (hl:TreeAt w l pl fl) (hr:Nodes w fr) (hnd:(b :: (fl ++ fr)).Nodup)
    (k:Turned w fr r' (.pointer p') w') (ho:Only [b] w' w2) (hb2:w2.heap[b]?=some (nodeO y2 av2 pl p' c2)) :
    ∃ fp2,StaleAt w2 l y2 r' c2 (some ⟨b,0,none⟩) fp2∧fp2.Nodup∧(∀ i∈fp2,i∈b :: (fl ++ fr)∨w.heap.size≤i)∧Only (b :: (fl ++ fr)) w w2:=by
  obtain ⟨p,fp',e,k1,k2,k3,k4⟩:=k
  obtain rfl:p'=p:=by injection e
  have hbs:=lt_of_block hb
  have hls:=hl.nodes.lt
  simp only [List.nodup_cons,List.nodup_append,List.mem_append] at hnd
  obtain ⟨d1,d2,d3,d4⟩:=hnd
  have e1:b∉fp':=fun hm=>by
    rcases k3 b hm with h | h
    · exact d1 (.inr h)
    · omega
  have e2:∀ i∈fl,i∉fr:=fun i hi hm=>d4 i hi i hm rfl
  have hb1:=k4.block hb (fun h=>d1 (.inr h))
  have hN:Nodes w' [b]:=Nodes.cons hb1 (Nodes.nil w')
  refine ⟨b :: (fl ++ fp'),⟨b,av2,pl,p',fl,fp',rfl,rfl,hb2,(hl.keep k4 hr e2).keep ho hN (fun i hi hm=>?_),k1.keep ho hN (fun i hi hm=>?_)⟩,?_,?_,?_⟩
  · obtain rfl:=List.mem_singleton.1 hm;exact d1 (.inl hi)
  · obtain rfl:=List.mem_singleton.1 hm;exact e1 hi
  · simp only [List.nodup_cons,List.nodup_append,List.mem_append]
    refine ⟨fun h=>?_,d2,k2,fun i hi j hj hij=>?_⟩
    · rcases h with h | h
      · exact d1 (.inl h)
      · exact e1 h
    · subst hij
      rcases k3 i hj with h | h
      · exact d4 i hi i h rfl
      · have:=hls i hi;omega
  · intro i hi
    rcases List.mem_cons.1 hi with rfl | hi
    · exact .inl List.mem_cons_self
    · rcases List.mem_append.1 hi with hi | hi
      · exact .inl (List.mem_cons_of_mem _ (List.mem_append_left _ hi))
      · rcases k3 i hi with h | h
        · exact .inl (List.mem_cons_of_mem _ (List.mem_append_right _ h))
        · exact .inr h
  · exact (k4.weaken (fun i hi=>List.mem_cons_of_mem _ (List.mem_append_right _ hi))).step ho (fun i hi => .inl (by obtain rfl:=List.mem_singleton.1 hi;exact List.mem_cons_self))
theorem len_ins (x:IT):∀ t:RB IT,(RB.ins ltT t x).list.length=t.list.length+1
  | .nil=>rfl
  | .node l y r c=>by
    simp only [RB.ins]
    cases ltT x y
    · rw [cond_false,RB.list_mend];simp only [RB.list,List.length_append,List.length_cons,len_ins x r];omega
    · rw [cond_true,RB.list_mend];simp only [RB.list,List.length_append,List.length_cons,len_ins x l];omega
set_option maxHeartbeats 2000000 in
theorem insert_ret (tb:Nat) (p0:Option Addr) (n0:Int) (x:IT):∀ (t:RB IT) (p:Option Addr) (fp:List Nat) (w0:World) (hT:w0.heap[tb]?=some (treeO p0 n0)) (h:TreeAt w0 t p fp) (hnd:fp.Nodup) (hlen:t.list.length+1≤1000000),
    Ret Tryz.prog 247 #[.pointer (some ⟨tb,0,none⟩),.pointer p,iv x.1] w0 fun v w'=>Turned w0 fp (RB.ins ltT t x) v w'
  | .nil,p,fp,w0,hT,⟨hp,hf⟩,hnd,hlen=>by
    subst hp hf
    have hs:=(St.nil w0).track hT (by simp)
    refine ret_of_xc Tryz.func247 (by kernel_rfl) rfl Tryz.ntmps247 rfl rfl rfl ?_;refine xc_seq ?_;refine xc_region ?_ ?_;exact rfl;refine bx hs (k:=?_);intro bq wq hzq hs;repeat' (first|refine vs (k:=?_)|refine qRg ?_|refine Nx.h ?_|refine qCt ?_|fail)
    refine dr [] hs (k:=?_);intro hX w hs
    refine tk 0 hX (k:=?_)
    refine tk 1 hX (k:=?_)
    refine tk 2 hX (k:=?_)
    refine tk 3 hX (k:=?_)
    refine tk 4 hX (k:=?_)
    refine tk 5 hX (k:=?_)
    refine dt 6 hX (k:=?_)
    (with_reducible apply xs_call);exact rfl;exact rfl;exact itself_ret x.1 _
    rintro v w' ⟨rfl,ho⟩;replace hs:=hs.call0 ho;repeat' (first|refine Nx.h ?_|fail)
    refine dn (k:=?_)
    refine tk 7 hX (k:=?_)
    refine dt 8 hX (k:=?_)
    refine bx hs (k:=?_);intro b w hz hs
    repeat' (first|refine Nx.h ?_|fail)
    refine dn (k:=?_)
    refine tk 9 hX (k:=?_)
    refine en (k:=?_)
    repeat' (first|refine Nx.h ?_|fail)
    first | refine rt (hq:=?_) | refine rt' (hq:=?_)
    have ho:Only [] w0 _:=hs.onlyF [] (by simp [hT]) (by simp [D0])
    have hnew:=hs.new (b,true) (by simp) rfl
    exact ⟨_,[b],rfl,⟨b,_,none,none,[],[],rfl,rfl,hs.get At.head,rfl,⟨rfl,rfl⟩,⟨rfl,rfl⟩⟩,by simp,fun k hk => .inr (by obtain rfl:=List.mem_singleton.1 hk;exact hnew),ho⟩
  | .node l y r c,p,fp,w0,hT,⟨b,av,pl,pr,fl,fr,hp,hf,hb,hav,hl,hr⟩,hnd,hlen=>by
    subst hp hf
    have hbt:=head_ne hT hb
    have hs:=((St.nil w0).track hT (by simp)).track hb (by simpa using hbt)
    have lt1:=lt_of_block hT
    have lt2:=lt_of_block hb
    have lt3:=hl.nodes.lt
    have lt4:=hr.nodes.lt
    simp only [RB.list,List.length_append,List.length_cons] at hlen
    refine ret_of_xc Tryz.func247 (by kernel_rfl) rfl Tryz.ntmps247 rfl rfl rfl ?_;refine xc_seq ?_;refine xc_region ?_ ?_;exact rfl;refine bx hs (k:=?_);intro bq wq hzq hs;repeat' (first|refine vs (k:=?_)|refine qRg ?_|refine Nx.h ?_|refine qCf ?_|fail)
    have hbq:=hs.new (bq,true) (by simp) rfl
    simp only at hbq
    refine dr [] hs (k:=?_);intro hX w hs
    refine tk 0 hX (k:=?_)
    refine tk 1 hX (k:=?_)
    refine tk 2 hX (k:=?_)
    refine tk 3 hX (k:=?_)
    refine tk 4 hX (k:=?_)
    refine tk 5 hX (k:=?_)
    refine tk 6 hX (k:=?_)
    refine tk 7 hX (k:=?_)
    refine tk 8 hX (k:=?_)
    refine dt 9 hX (k:=?_)
    (with_reducible apply xs_call);exact rfl;exact rfl;exact ahd_ret x y _
    rintro v w' ⟨rfl,ho⟩;replace hs:=hs.call0 ho
    repeat' (first|refine Nx.h ?_|fail)
    refine dn (k:=?_)
    refine tk 10 hX (k:=?_)
    refine en (k:=?_)
    generalize hq:ltT x y=q
    cases q
    · have e:RB.ins ltT (.node l y r c) x=RB.mend (.node l y (RB.ins ltT r x) c):=by simp [RB.ins,hq]
      rw [e]
      repeat' (first|refine Nx.h ?_|refine qCf ?_|fail)
      have ho1:Only [] w0 _:=hs.onlyF [] (by simp [hT,hb]) (by simp [D0])
      have hTw:=head_keep hT ho1 (Nodes.nil _)
      have hlw:=hl.keep ho1 (Nodes.nil _) (by simp)
      have hrw:=hr.keep ho1 (Nodes.nil _) (by simp)
      have hbw:=hs.get (At.tail At.head)
      have hqw:=hs.get At.head
      refine dr [10] hs (k:=?_);intro hX w hs
      refine tk 0 hX (k:=?_)
      refine tk 1 hX (k:=?_)
      refine tk 2 hX (k:=?_)
      refine tk 3 hX (k:=?_)
      refine tk 4 hX (k:=?_)
      refine tk 5 hX (k:=?_)
      refine tk 6 hX (k:=?_)
      refine dt 7 hX (k:=?_)
      have ho1:Only [] w0 _:=hs.onlyF [] (by simp [hT,hb]) (by simp [D0])
      have hTw:=head_keep hT ho1 (Nodes.nil _)
      have hlw:=hl.keep ho1 (Nodes.nil _) (by simp)
      have hrw:=hr.keep ho1 (Nodes.nil _) (by simp)
      have hbw:=hs.get (At.tail At.head)
      have hqw:=hs.get At.head
      (with_reducible apply xs_call);exact rfl;exact rfl;exact insert_ret tb p0 n0 x r pr fr _ hTw hrw (by simp only [List.nodup_cons,List.nodup_append] at hnd;exact hnd.2.2.1) (by omega)
      rintro v w' hk
      obtain ⟨p',hv⟩:∃ p',v = .pointer p':=by obtain ⟨p',_,hv,_⟩:=hk;exact ⟨p',hv⟩
      subst hv
      obtain ⟨_,_,_,_,_,_,k4⟩:=id hk
      have hT1:=head_keep hTw k4 hrw.nodes
      have hb1:=k4.block hbw (fun h=>by simp [h] at hnd)
      have hq1:=k4.block hqw (fun h=>by have:=lt4 bq h;omega)
      clear hs
      have hs:=(((St.nil w').track hT1 (by simp)).track hb1 (by simpa using hbt)).track hq1 (by simp;omega)
      repeat' (first|refine Nx.h ?_|fail)
      refine dn (k:=?_)
      refine tk 8 hX (k:=?_)
      refine tk 9 hX (k:=?_)
      refine dt 10 hX (k:=?_)
      repeat' (first|(refine st hs (k:=?_);intro w hs)|refine Nx.h ?_|fail)
      refine dn (k:=?_)
      refine en (k:=?_)
      repeat' (first|refine vs (k:=?_)|refine qRg ?_|refine Nx.h ?_|fail)
      have ho3:Only [b] w' _:=hs.onlyF [b] (by simp [hT1,hq1]) (by simp [D0])
      obtain ⟨fp2,s1,s2,s3,s4⟩:=graftR hbw hlw hrw.nodes hnd hk ho3 (hs.get (At.tail At.head))
      (with_reducible apply xs_call);exact rfl;exact rfl;exact mend_ret tb p0 n0 _ y _ c _ _ _ (head_keep hT1 ho3 (Nodes.cons hb1 (Nodes.nil _))) s1 s2 (by simp only [List.length_append,List.length_cons,len_ins];omega)
      rintro v w3 hm
      have hsz:=ho1.size
      have hm2:=hm.up ((ho1.weaken (G:=b :: (fl ++ fr)) (by simp)).step s4 (fun k hk => .inl hk)) (fun k hk=>by rcases s3 k hk with h | h;exact .inl h;exact .inr (by omega))
      have hs:=St.nil w3
      repeat' (first|refine vs (k:=?_)|refine Nx.h ?_|fail)
      first | refine rt (hq:=?_) | refine rt' (hq:=?_)
      exact hm2
    · have e:RB.ins ltT (.node l y r c) x=RB.mend (.node (RB.ins ltT l x) y r c):=by simp [RB.ins,hq]
      rw [e]
      repeat' (first|refine Nx.h ?_|refine qCt ?_|fail)
      have ho1:Only [] w0 _:=hs.onlyF [] (by simp [hT,hb]) (by simp [D0])
      have hTw:=head_keep hT ho1 (Nodes.nil _)
      have hlw:=hl.keep ho1 (Nodes.nil _) (by simp)
      have hrw:=hr.keep ho1 (Nodes.nil _) (by simp)
      have hbw:=hs.get (At.tail At.head)
      have hqw:=hs.get At.head
      refine dr [10] hs (k:=?_);intro hX w hs
      refine tk 0 hX (k:=?_)
      refine tk 1 hX (k:=?_)
      refine tk 2 hX (k:=?_)
      refine tk 3 hX (k:=?_)
      refine tk 4 hX (k:=?_)
      refine tk 5 hX (k:=?_)
      refine tk 6 hX (k:=?_)
      refine dt 7 hX (k:=?_)
      have ho1:Only [] w0 _:=hs.onlyF [] (by simp [hT,hb]) (by simp [D0])
      have hTw:=head_keep hT ho1 (Nodes.nil _)
      have hlw:=hl.keep ho1 (Nodes.nil _) (by simp)
      have hrw:=hr.keep ho1 (Nodes.nil _) (by simp)
      have hbw:=hs.get (At.tail At.head)
      have hqw:=hs.get At.head
      (with_reducible apply xs_call);exact rfl;exact rfl;exact insert_ret tb p0 n0 x l pl fl _ hTw hlw (by simp only [List.nodup_cons,List.nodup_append] at hnd;exact hnd.2.1) (by omega)
      rintro v w' hk
      obtain ⟨p',hv⟩:∃ p',v = .pointer p':=by obtain ⟨p',_,hv,_⟩:=hk;exact ⟨p',hv⟩
      subst hv
      obtain ⟨_,_,_,_,_,_,k4⟩:=id hk
      have hT1:=head_keep hTw k4 hlw.nodes
      have hb1:=k4.block hbw (fun h=>by simp [h] at hnd)
      have hq1:=k4.block hqw (fun h=>by have:=lt3 bq h;omega)
      clear hs
      have hs:=(((St.nil w').track hT1 (by simp)).track hb1 (by simpa using hbt)).track hq1 (by simp;omega)
      repeat' (first|refine Nx.h ?_|fail)
      refine dn (k:=?_)
      refine tk 8 hX (k:=?_)
      refine tk 9 hX (k:=?_)
      refine dt 10 hX (k:=?_)
      repeat' (first|(refine st hs (k:=?_);intro w hs)|refine Nx.h ?_|fail)
      refine dn (k:=?_)
      refine en (k:=?_)
      repeat' (first|refine vs (k:=?_)|refine qRg ?_|refine Nx.h ?_|fail)
      have ho3:Only [b] w' _:=hs.onlyF [b] (by simp [hT1,hq1]) (by simp [D0])
      obtain ⟨fp2,s1,s2,s3,s4⟩:=graftL hbw hlw.nodes hrw hnd hk ho3 (hs.get (At.tail At.head))
      (with_reducible apply xs_call);exact rfl;exact rfl;exact mend_ret tb p0 n0 _ y _ c _ _ _ (head_keep hT1 ho3 (Nodes.cons hb1 (Nodes.nil _))) s1 s2 (by simp only [List.length_append,List.length_cons,len_ins];omega)
      rintro v w3 hm
      have hsz:=ho1.size
      have hm2:=hm.up ((ho1.weaken (G:=b :: (fl ++ fr)) (by simp)).step s4 (fun k hk => .inl hk)) (fun k hk=>by rcases s3 k hk with h | h;exact .inl h;exact .inr (by omega))
      have hs:=St.nil w3
      repeat' (first|refine vs (k:=?_)|refine Nx.h ?_|fail)
      first | refine rt (hq:=?_) | refine rt' (hq:=?_)
      exact hm2
end Go.Proofs.YtalffooghioekaaGreatDoorX.IB
