/- A part of the proof: what its functions compute. -/
import Derived.Test.YtalffooghioekaaGreatDoorBaseN4
set_option linter.unusedVariables false
set_option linter.unusedSimpArgs false
set_option maxRecDepth 100000
namespace Go.Proofs.YtalffooghioekaaGreatDoorX.IB
open Go Go.RowKit
attribute [local irreducible] XS XC XA thenE blockE retE loopE loopS cutB cutN doneE SE
set_option maxHeartbeats 1000000 in
theorem has_ret (tb:Nat) (p:Option Addr) (n:Int) (t:RB IT) (fp:List Nat) (x:IT) (w0:World) (hT:w0.heap[tb]?=some (treeO p n)) (h:TreeAt w0 t p fp) :
    Ret Tryz.prog 246 #[.pointer (some ⟨tb,0,none⟩),iv x.1] w0 fun v w'=>v = .bool (RB.has ltT x t)∧Only [] w0 w':=by
  have hs:=(St.nil w0).track hT (by simp)
  have lt1:=lt_of_block hT
  refine ret_of_xc Tryz.func246 (by kernel_rfl) rfl Tryz.ntmps246 rfl rfl rfl ?_;refine xc_seq ?_;refine xc_region ?_ ?_;exact rfl;refine bx hs (k:=?_);intro bq wq hzq hs;repeat' (first|refine vs (k:=?_)|refine qRg ?_|refine Nx.h ?_|refine qCf ?_|fail)
  have hbq:=hs.new (bq,true) (by simp) rfl
  simp only at hbq
  have ho1:Only [] w0 _:=hs.onlyF [] (by simp [hT]) (by simp [D0])
  have hqw:=hs.get At.head
  refine xc_cutB (fun _:Unit=>[]) (fun _ w=>RB.has ltT x t=false∧Only [] w0 w) ?_ ?_
  · refine xc_loopS (fun (s:RB IT × Option Addr)=>[(0,.pointer (some ⟨tb,0,none⟩)),(3,.pointer (some ⟨bq,0,none⟩)),(5,.pointer s.2)])
      (fun s w=>RB.has ltT x s.1=RB.has ltT x t∧Only [] w0 w∧w.heap[bq]?=some (.cells x.1.cells.toArray 64 (0,0))∧∃ fp,TreeAt w0 s.1 s.2 fp)
      (fun s=>s.1.list.length) (t,p) (by (repeat (first | exact agree_nil | (apply agree_cons;exact rfl)))) ⟨rfl,ho1,hqw,fp,h⟩ fun s env w ⟨h1,h2,hqw,fp2,h3⟩=>?_
    clear hs
    obtain ⟨s,ps⟩:=s
    dsimp only at h1 h3 ⊢
    have hTw:=h2.block hT (by simp)
    cases s with
    | nil =>
      obtain ⟨rfl,rfl⟩:=h3
      have hs:=St.nil w
      repeat' (first|refine vs (k:=?_)|refine qRg ?_|refine Nx.h ?_|refine qCf ?_|fail)
      exact cutB_exit () (by (repeat (first | exact agree_nil | (apply agree_cons;exact rfl)))) ⟨h1.symm,h2.step (hs.only0 rfl) (by simp)⟩
    | node l y r c =>
      obtain ⟨b,av,pl,pr,fl,fr,rfl,rfl,hb,hav,hl,hr⟩:=h3
      have hbw:=h2.block hb (by simp)
      have hbt:=head_ne hT hb
      have lt2:=lt_of_block hb
      have hs:=(((St.nil w).track hTw (by simp)).track hbw (by simpa using hbt)).track hqw (by simp;omega)
      repeat' (first|refine vs (k:=?_)|refine qRg ?_|refine Nx.h ?_|refine qCt ?_|fail)
      refine dr [] hs (k:=?_);intro hX w hs
      refine tk 0 hX (k:=?_)
      refine tk 1 hX (k:=?_)
      refine tk 2 hX (k:=?_)
      refine tk 3 hX (k:=?_)
      refine tk 4 hX (k:=?_)
      refine tk 5 hX (k:=?_)
      refine tk 6 hX (k:=?_)
      refine tk 7 hX (k:=?_)
      refine tk 8 hX (k:=?_)
      refine dt 9 hX (k:=?_)
      (with_reducible apply xs_call);exact rfl;exact rfl;exact ahd_ret x y _
      rintro v w' ⟨rfl,ho⟩;replace hs:=hs.call0 ho
      repeat' (first|refine Nx.h ?_|fail)
      refine dn (k:=?_)
      refine tk 10 hX (k:=?_)
      refine en (k:=?_)
      generalize hq:ltT x y=q
      simp only [RB.has,hq] at h1
      cases q
      · repeat' (first|refine Nx.h ?_|refine qCf ?_|fail)
        refine dr [] hs (k:=?_);intro hX w hs
        refine tk 0 hX (k:=?_)
        refine tk 1 hX (k:=?_)
        refine tk 2 hX (k:=?_)
        refine tk 3 hX (k:=?_)
        refine tk 4 hX (k:=?_)
        refine tk 5 hX (k:=?_)
        refine tk 6 hX (k:=?_)
        refine tk 7 hX (k:=?_)
        refine tk 8 hX (k:=?_)
        refine dt 9 hX (k:=?_)
        (with_reducible apply xs_call);exact rfl;exact rfl;exact ahd_ret y x _
        rintro v w' ⟨rfl,ho⟩;replace hs:=hs.call0 ho
        repeat' (first|refine Nx.h ?_|fail)
        refine dn (k:=?_)
        refine tk 10 hX (k:=?_)
        refine en (k:=?_)
        generalize hq2:ltT y x=q2
        simp only [hq2,cond_false] at h1
        cases q2
        · repeat' (first|refine vs (k:=?_)|refine qRg ?_|refine Nx.h ?_|refine qCf ?_|fail)
          first | refine rt (hq:=?_) | refine rt' (hq:=?_)
          exact ⟨by rw [← h1];rfl,h2.step (hs.onlyF [] (by simp [hTw,hbw,hqw]) (by simp [D0])) (by simp)⟩
        · repeat' (first|refine vs (k:=?_)|refine qRg ?_|refine Nx.h ?_|refine qCt ?_|fail)
          exact loopS_next (r,pr) (by simp only [RB.list,List.length_append,List.length_cons];omega) (by (repeat (first | exact agree_nil | (apply agree_cons;exact rfl)))) ⟨h1,h2.step (hs.onlyF [] (by simp [hTw,hbw,hqw]) (by simp [D0])) (by simp),hs.get At.head,_,hr⟩
      · repeat' (first|refine vs (k:=?_)|refine qRg ?_|refine Nx.h ?_|refine qCt ?_|fail)
        exact loopS_next (l,pl) (by simp only [RB.list,List.length_append,List.length_cons];omega) (by (repeat (first | exact agree_nil | (apply agree_cons;exact rfl)))) ⟨h1,h2.step (hs.onlyF [] (by simp [hTw,hbw,hqw]) (by simp [D0])) (by simp),hs.get At.head,_,hl⟩
  · rintro _ env w ⟨h1,h2⟩
    clear hs
    have hs:=St.nil w
    repeat' (first|refine vs (k:=?_)|refine qRg ?_|refine Nx.h ?_|fail)
    first | refine rt (hq:=?_) | refine rt' (hq:=?_)
    exact ⟨by rw [h1];rfl,h2.step (hs.only0 rfl) (by simp)⟩
theorem mend3_node (l:RB IT) (x:IT) (r:RB IT) (c:Bool):∃ l' x' r' c',RB.mend3 (.node l x r c) = .node l' x' r' c':=by
  unfold RB.mend3
  cases l with
  | nil=>exact ⟨_,_,_,_,rfl⟩
  | node a y b d =>
    cases r with
    | nil=>cases d <;> exact ⟨_,_,_,_,rfl⟩
    | node u z v e=>cases d <;> cases e <;> exact ⟨_,_,_,_,rfl⟩
theorem mend_node (l:RB IT) (x:IT) (r:RB IT) (c:Bool):∃ l' x' r' c',RB.mend (.node l x r c) = .node l' x' r' c':=by
  unfold RB.mend
  obtain ⟨l1,x1,r1,c1,e1⟩:=mend1_node l x r c
  obtain ⟨l2,x2,r2,c2,e2⟩:=mend2_node l1 x1 r1 c1
  rw [e1,e2]
  exact mend3_node l2 x2 r2 c2
theorem ins_node (x:IT) (t:RB IT):∃ l' x' r' c',RB.ins ltT t x = .node l' x' r' c':=by
  cases t with
  | nil=>exact ⟨_,_,_,_,rfl⟩
  | node l y r c =>
    simp only [RB.ins]
    cases ltT x y
    · exact mend_node _ _ _ _
    · exact mend_node _ _ _ _
theorem TreeAt.keepD {w w':World} {F:List Nat} (ho:Only F w w'):∀ {t:RB IT} {p:Option Addr} {fp:List Nat},TreeAt w t p fp→(∀ b∈fp,b∉F)→TreeAt w' t p fp
  | .nil,p,fp,h,_=>h
  | .node l x r c,p,fp,⟨b,av,pl,pr,fl,fr,h1,h2,h3,h4,h5,h6⟩,hd=>by
    subst h2
    exact ⟨b,av,pl,pr,fl,fr,h1,rfl,ho.block h3 (hd b List.mem_cons_self),h4,TreeAt.keepD ho h5 fun k hk=>hd k (List.mem_cons_of_mem _ (List.mem_append_left _ hk)),
      TreeAt.keepD ho h6 fun k hk=>hd k (List.mem_cons_of_mem _ (List.mem_append_right _ hk))⟩
theorem tree_keep2 {w w':World} {b tb:Nat} {t:RB IT} {p p0:Option Addr} {n0:Int} {fp:List Nat} {cs:Array Value} {fz:Nat × Nat} (h:TreeAt w t p fp) (ho:Only [b,tb] w w') (hb:w.heap[b]?=some (.cells cs 295 fz)) (hT:w.heap[tb]?=some (treeO p0 n0)) (h1:b∉fp) (h2:tb∉fp):TreeAt w' t p fp :=
  h.keepD ho fun k hk hm=>by
    simp only [List.mem_cons,List.not_mem_nil,or_false] at hm
    rcases hm with rfl | rfl
    · exact h1 hk
    · exact h2 hk
def Obj6 (w:World) (tb:Nat) (t:RB IT) (F:List Nat):Prop:=∃ p fp,F=tb :: fp∧w.heap[tb]?=some (treeO p t.list.length)∧TreeAt w t p fp∧fp.Nodup
def RB.insert (t:RB IT) (x:IT):RB IT:=bif RB.has ltT x t then t else RB.blacken (RB.ins ltT t x)
set_option maxHeartbeats 1000000 in
theorem rbInsert_ret (tb:Nat) (t:RB IT) (F:List Nat) (x:IT) (w0:World) (h:Obj6 w0 tb t F) (hlen:t.list.length+1≤1000000) :
    Ret Tryz.prog 226 #[.pointer (some ⟨tb,0,none⟩),iv x.1] w0 fun v w'=>v = .bool (!RB.has ltT x t)∧∃ F',Obj6 w' tb (RB.insert t x) F'∧(∀ k∈F',k∈F∨w0.heap.size≤k)∧Only F w0 w':=by
  obtain ⟨p,fp,rfl,hT,ht,hnd⟩:=h
  have hs:=(St.nil w0).track hT (by simp)
  have lt1:=lt_of_block hT
  have lt3:=ht.nodes.lt
  refine ret_of_xc Tryz.func226 (by kernel_rfl) rfl Tryz.ntmps226 rfl rfl rfl ?_;refine xc_seq ?_;refine xc_region ?_ ?_;exact rfl;refine bx hs (k:=?_);intro bq wq hzq hs;repeat' (first|refine vs (k:=?_)|refine qRg ?_|refine Nx.h ?_|fail)
  have hbq:=hs.new (bq,true) (by simp) rfl
  simp only at hbq
  have ho1:Only [] w0 _:=hs.onlyF [] (by simp [hT]) (by simp [D0])
  (with_reducible apply xs_call);exact rfl;exact rfl;exact has_ret tb p _ t fp x _ (hs.get (At.tail At.head)) (ht.keep ho1 (Nodes.nil _) (by simp))
  rintro v w' ⟨rfl,ho⟩;replace hs:=hs.call0 ho
  unfold RB.insert
  generalize hq:RB.has ltT x t=q
  cases q
  · obtain ⟨l',y,r',c,e⟩:=ins_node x t
    have hl':=len_ins x t
    rw [e] at hl' ⊢
    repeat' (first|refine vs (k:=?_)|refine Nx.h ?_|refine qCf ?_|fail)
    refine dr [10] hs (k:=?_);intro hX w hs
    refine tk 0 hX (k:=?_)
    refine tk 1 hX (k:=?_)
    refine tk 2 hX (k:=?_)
    refine tk 3 hX (k:=?_)
    refine tk 4 hX (k:=?_)
    refine tk 5 hX (k:=?_)
    refine tk 6 hX (k:=?_)
    refine dt 7 hX (k:=?_)
    have ho1:Only [] w0 _:=hs.onlyF [] (by simp [hT]) (by simp [D0])
    have hTw:=hs.get (At.tail At.head)
    have hqw:=hs.get At.head
    have htw:=ht.keep ho1 (Nodes.nil _) (by simp)
    (with_reducible apply xs_call);exact rfl;exact rfl;exact insert_ret tb p _ x t p fp _ hTw htw hnd hlen
    rintro v w1 ⟨p',fp',rfl,k1,k2,k3,k4⟩
    have hT1:=head_keep hTw k4 htw.nodes
    have hq1:=k4.block hqw (fun h=>by have:=lt3 bq h;omega)
    rw [e] at k1
    obtain ⟨b,av,pl,pr,fl,fr,rfl,rfl,hb,hav,hl,hr⟩:=k1
    have hbt:=head_ne hT1 hb
    have hbq2:b≠bq:=blocks_ne hb hq1 (by decide)
    clear hs
    have hs:=((St.nil w1).track hT1 (by simp)).track hq1 (by simp;omega)
    repeat' (first|refine Nx.h ?_|fail)
    refine dn (k:=?_)
    replace hs:=hs.track (b:=b) hb (by simp [hbt,hbq2])
    refine tk 8 hX (k:=?_)
    refine tk 9 hX (k:=?_)
    refine dt 10 hX (k:=?_)
    repeat' (first|(refine st hs (k:=?_);intro w hs)|refine Nx.h ?_|fail)
    refine dn (k:=?_)
    refine en (k:=?_)
    repeat' (first|refine vs (k:=?_)|(refine st hs (k:=?_);intro w hs)|refine qRg ?_|refine Nx.h ?_|fail)
    have en:IntKind.i64.wrap ((t.list.length:Nat)+1)=((l'.list ++ y :: r'.list).length:Nat):=by
      have h1:(l'.list ++ y :: r'.list).length=t.list.length+1:=hl'
      rw [h1]
      exact i64_small (by omega) (by omega)
    rw [en] at hs
    first | refine rt (hq:=?_) | refine rt' (hq:=?_)
    have ho3:Only [b,tb] w1 _:=hs.onlyF [b,tb] (by simp [hq1]) (by simp [D0])
    have hsz:=ho1.size
    have hbn:b∉fl∧b∉fr:=by
      simp only [List.nodup_cons,List.mem_append,not_or] at k2
      exact k2.1
    have htn:tb∉fl∧tb∉fr:=⟨(fun h=>by obtain ⟨_,_,h⟩:=hl.nodes tb h;rw [hT1] at h;cases h),(fun h=>by obtain ⟨_,_,h⟩:=hr.nodes tb h;rw [hT1] at h;cases h)⟩
    have h2:=hs.get At.head
    have h3:=hs.get (At.tail (At.tail At.head))
    have o1:Only (tb :: fp) w0 w1:=(ho1.weaken (by simp)).step k4 (fun k hk => .inl (List.mem_cons_of_mem _ hk))
    refine ⟨rfl,tb :: (b :: (fl ++ fr)),⟨_,_,rfl,h3,⟨b,av,pl,pr,fl,fr,rfl,rfl,h2,hav,?_,?_⟩,k2⟩,?_,?_⟩
    · exact tree_keep2 hl ho3 hb hT1 hbn.1 htn.1
    · exact tree_keep2 hr ho3 hb hT1 hbn.2 htn.2
    · intro k hk
      rcases List.mem_cons.1 hk with rfl | hk
      · exact .inl List.mem_cons_self
      · rcases k3 k hk with h | h
        · exact .inl (List.mem_cons_of_mem _ h)
        · exact .inr (by omega)
    · refine o1.step ho3 (fun k hk=>?_)
      simp only [List.mem_cons,List.not_mem_nil,or_false] at hk
      rcases hk with rfl | rfl
      · rcases k3 k List.mem_cons_self with h | h
        · exact .inl (List.mem_cons_of_mem _ h)
        · exact .inr (by omega)
      · exact .inl List.mem_cons_self
  · repeat' (first|refine vs (k:=?_)|refine qRg ?_|refine Nx.h ?_|refine qCt ?_|fail)
    first | refine rt (hq:=?_) | refine rt' (hq:=?_)
    have ho1:Only [] w0 _:=hs.onlyF [] (by simp [hT]) (by simp [D0])
    exact ⟨rfl,_,⟨p,fp,rfl,hs.get (At.tail At.head),ht.keep ho1 (Nodes.nil _) (by simp),hnd⟩,fun k hk => .inl hk,ho1.weaken (by simp)⟩
end Go.Proofs.YtalffooghioekaaGreatDoorX.IB

namespace Go.Proofs.YtalffooghioekaaGreatDoorX.IB
open Go Go.RowKit
attribute [local irreducible] XS XC XA thenE blockE retE loopE loopS cutB cutN doneE SE
def flatT (l:List IT):List Value:=(l.map fun a=>a.1.cells).flatten
theorem flatT_app (a b:List IT):flatT (a ++ b)=flatT a ++ flatT b:=by simp [flatT]
theorem slv_not {w:World} {e k n:Nat} {v:Value} {xs:List Value} {G:List Nat} (h:SlV w e k v n xs G) {t:Nat} (hne:t≠e) {cs:Array Value} {fz:Nat × Nat} {b:Nat} (hb:w.heap[b]?=some (.cells cs t fz)):b∉G:=fun hm=>by
  rcases h with ⟨_,_,_,rfl⟩ | ⟨g,cap,cur,_,rfl,_,_,_,_,hg⟩
  · cases hm
  · obtain rfl:=List.mem_singleton.1 hm
    exact blocks_ne hb hg hne rfl
theorem Nodes.not {w:World} {F:List Nat} (hF:Nodes w F) {e k n:Nat} {v:Value} {xs:List Value} {G:List Nat} (h:SlV w e k v n xs G) (hne:295≠e):∀ b∈F,b∉G:=fun b hb=>by
  obtain ⟨cs,fz,h1⟩:=hF b hb
  exact slv_not h hne h1
set_option maxHeartbeats 2000000 in
theorem walk_ret:∀ (t:RB IT) (p:Option Addr) (fp:List Nat) (v0:Value) (xs:List IT) (G:List Nat) (w0:World) (h:TreeAt w0 t p fp) (hO:SlV w0 64 7 v0 xs.length (flatT xs) G) (hlen:xs.length+t.list.length≤1000000),
    Ret Tryz.prog 262 #[.pointer p,v0] w0 fun v w'=>(∃ G',SlV w' 64 7 v (xs ++ t.list).length (flatT (xs ++ t.list)) G'∧(∀ k∈G',k∈G∨w0.heap.size≤k))∧Only G w0 w'
  | .nil,p,fp,v0,xs,G,w0,h,hO,hlen=>by
    obtain ⟨rfl,rfl⟩:=h
    have hs:=St.nil w0
    refine ret_of_xc Tryz.func262 (by kernel_rfl) rfl Tryz.ntmps262 rfl rfl rfl ?_
    repeat' (first|refine vs (k:=?_)|refine qRg ?_|refine Nx.h ?_|refine qCt ?_|fail)
    first | refine rt (hq:=?_) | refine rt' (hq:=?_)
    have ho:=hs.only0 rfl
    rw [show xs ++ RB.nil.list=xs from List.append_nil xs]
    exact ⟨⟨G,hO.keep ho (by simp),fun k hk => .inl hk⟩,ho.weaken (by simp)⟩
  | .node l x r c,p,fp,v0,xs,G,w0,⟨b,av,pl,pr,fl,fr,hp',hf',hb,hav,hl,hr⟩,hO,hlen=>by
    subst hp' hf'
    simp only [RB.list,List.length_append,List.length_cons] at hlen
    have hs:=(St.nil w0).track hb (by simp)
    have hGl:=hO.lt
    have hbG:=slv_not hO (by decide) hb
    have hnl:=hl.nodes.not hO (by decide)
    have hnr:=hr.nodes.not hO (by decide)
    have ltr:=hr.nodes.lt
    have ltb:=lt_of_block hb
    refine ret_of_xc Tryz.func262 (by kernel_rfl) rfl Tryz.ntmps262 rfl rfl rfl ?_
    repeat' (first|refine vs (k:=?_)|refine qRg ?_|refine Nx.h ?_|refine qCf ?_|fail)
    refine dr [] hs (k:=?_);intro hX w hs
    refine tk 0 hX (k:=?_)
    refine tk 1 hX (k:=?_)
    refine tk 2 hX (k:=?_)
    refine tk 3 hX (k:=?_)
    refine tk 4 hX (k:=?_)
    refine tk 5 hX (k:=?_)
    refine tk 6 hX (k:=?_)
    refine tk 7 hX (k:=?_)
    refine tk 8 hX (k:=?_)
    refine tk 10 hX (k:=?_)
    refine tk 11 hX (k:=?_)
    refine tk 12 hX (k:=?_)
    refine tk 13 hX (k:=?_)
    refine pd0S 14 22 x.1.cells hs (k:=?_);intro f X w hp;have hs:=hp.st
    apply xa_pend 9 14 (f:=f) (X:=X) hX hp;exact rfl;exact rfl;(first | (apply makes_alloc tabOk;exact rfl) | (apply makes_slice tabOk;exact rfl;exact rfl;exact rfl;exact rfl;exact rfl;(intro X;((repeat (first | exact Bld.nil | (apply Bld.one;exact rfl;(conv=>lhs;whnf);exact rfl;(repeat (first | exact PutL.nil | apply PutL.skip | apply PutL.cons))) | (apply Bld.agg;exact rfl;exact rfl;exact rfl;(repeat (first | exact PutL.nil | apply PutL.skip | apply PutL.cons)))))))));kernel_rfl;kernel_rfl;kernel_rfl;kernel_rfl;(intro X Y;(repeat (first | exact pgg_base | refine pgg_step ?_ (by exact rfl))));(intro w' hs;first|exact se_hold hs.hold|exact se_hold hs.hold.tail|exact se_done rfl);intro f X w hp;have hs:=hp.st
    have ho1:Only [] w0 _:=hs.onlyF [] (by simp [hb]) (by simp [D0])
    (with_reducible apply xs_call);exact rfl;exact rfl;exact walk_ret l pl fl v0 xs G _ (hl.keep ho1 (Nodes.nil _) (by simp)) (hO.keep ho1 (by simp)) (by omega)
    rintro v1 w1 ⟨⟨G1,hO1,hG1⟩,ho2⟩
    have hz1:=ho1.size
    have hp:Pend w0 ⟨G ++ [],[]⟩ _ _ _ (fun w=>SlV w 64 7 v1 (xs ++ l.list).length (flatT (xs ++ l.list)) G1) _ _ _:=⟨hp.core.call ho2 hGl (fun k hk hm=>by obtain rfl:=List.mem_singleton.1 hm;exact hbG hk) (by simp [D0]),hO1,fun _ _ ho h=>h.keep ho (by simp)⟩
    replace hs:=hp.st
    have hG1':∀ k∈G1,k∈G∨w0.heap.size≤k:=fun k hk=>by rcases hG1 k hk with h | h;exact .inl h;exact .inr (by omega)
    clear hG1 ho1 ho2
    repeat' (first|refine Nx.h ?_|fail)
    refine dn (k:=?_)
    apply xa_pendE 14 (f:=f) (X:=X) hX hp;exact rfl;(first | (apply makes_alloc tabOk;exact rfl) | (apply makes_slice tabOk;exact rfl;exact rfl;exact rfl;exact rfl;exact rfl;(intro X;((repeat (first | exact Bld.nil | (apply Bld.one;exact rfl;(conv=>lhs;whnf);exact rfl;(repeat (first | exact PutL.nil | apply PutL.skip | apply PutL.cons))) | (apply Bld.agg;exact rfl;exact rfl;exact rfl;(repeat (first | exact PutL.nil | apply PutL.skip | apply PutL.cons)))))))));kernel_rfl;kernel_rfl;(intro X Y;(repeat (first | exact pgg_base | refine pgg_step ?_ (by exact rfl))));(intro w' hs;first|exact se_hold hs.hold|exact se_hold hs.hold.tail|exact se_done rfl);intro b w hI hs
    refine dt 15 hX (k:=?_)
    have hb14:=hs.get At.head
    replace hs:=hs.forgetNew
    have hbw:=hs.get At.head
    refine xs_appendW tabOk rfl rfl rfl rfl rfl rfl rfl (by decide) (lit_cells (news:=x.1.cells) hb14) (by simp [Value.oneCell']) hI (by simp only [List.length_append];omega) (by simp only [List.length_append];omega) ?_
    intro v2 w3 ⟨G2,hO2,hG2⟩ ho3
    have hz2:=hs.size
    have hbG1:=slv_not hI (by decide) hbw
    replace hs:=hs.call ho3 (fun k hk hm=>by obtain rfl:=List.mem_singleton.1 hm;exact hbG1 hk) (by simp)
    have hO2':SlV w3 64 7 v2 (xs ++ l.list ++ [x]).length (flatT (xs ++ l.list ++ [x])) G2:=by
      rw [flatT_app (xs ++ l.list) [x],List.length_append (bs:=[x])]
      exact hO2
    have hG2':∀ k∈G2,k∈G∨w0.heap.size≤k:=fun k hk=>by
      rcases hG2 k hk with h | h
      · exact hG1' k h
      · exact .inr (by omega)
    have hoo:Only (G1 ++ (G ++ [])) w0 w3:=hs.onlyF _ (by simp [hb]) (by simp)
    have hr3:=hr.keepD hoo (fun k hk hm=>by
      simp only [List.append_nil,List.mem_append] at hm
      rcases hm with hm | hm
      · rcases hG1' k hm with h | h
        · exact hnr k hk h
        · have:=ltr k hk;omega
      · exact hnr k hk hm)
    repeat' (first|refine Nx.h ?_|fail)
    refine dn (k:=?_)
    refine dt 16 hX (k:=?_)
    (with_reducible apply xs_call);exact rfl;exact rfl;exact walk_ret r pr fr v2 (xs ++ l.list ++ [x]) G2 _ hr3 hO2' (by simp only [List.length_append,List.length_cons,List.length_nil];omega)
    rintro v3 w4 ⟨⟨G3,hO3,hG3⟩,ho4⟩
    have hz3:=hs.size
    have hbw3:=hs.get At.head
    have hbG2:=slv_not hO2' (by decide) hbw3
    replace hs:=hs.call ho4 (fun k hk hm=>by obtain rfl:=List.mem_singleton.1 hm;exact hbG2 hk) (by simp)
    repeat' (first|refine Nx.h ?_|fail)
    refine dn (k:=?_)
    refine tk 17 hX (k:=?_)
    refine en (k:=?_)
    repeat' (first|refine Nx.h ?_|fail)
    first | refine rt (hq:=?_) | refine rt' (hq:=?_)
    rw [show xs ++ l.list ++ [x] ++ r.list=xs ++ (RB.node l x r c).list by simp [RB.list]] at hO3
    have hoo2:Only (G2 ++ (G1 ++ (G ++ []))) w0 w4:=hs.onlyF _ (by simp [hb]) (by simp)
    refine ⟨⟨G3,hO3,fun k hk=>?_⟩,?_⟩
    · rcases hG3 k hk with h | h
      · exact hG2' k h
      · exact .inr (by omega)
    · refine hoo2.mono fun k hk hm=>?_
      simp only [List.append_nil,List.mem_append] at hm
      rcases hm with hm | hm | hm
      · rcases hG2' k hm with h | h
        · exact h
        · omega
      · rcases hG1' k hm with h | h
        · exact h
        · omega
      · exact hm
def ITsAt (w:World) (v:Value) (l:List IT):Prop:=ItsAt w v (l.map (·.1))
theorem its_of {w:World} {v:Value} {l:List IT} {G:List Nat} (h:SlV w 64 7 v l.length (flatT l) G):ITsAt w v l:=by
  unfold ITsAt ItsAt
  refine h.ls ?_ (by simp) ?_
  · simp [flatT,Function.comp_def]
  · intro x hx
    obtain ⟨a,_,rfl⟩:=List.mem_map.1 hx
    rfl
theorem rbAll_ret (tb:Nat) (t:RB IT) (F:List Nat) (w0:World) (h:Obj6 w0 tb t F) (hlen:t.list.length≤1000000) :
    Ret Tryz.prog 250 #[.pointer (some ⟨tb,0,none⟩)] w0 fun v w'=>(∃ G,SlV w' 64 7 v t.list.length (flatT t.list) G∧∀ k∈G,w0.heap.size≤k)∧Only [] w0 w':=by
  obtain ⟨p,fp,rfl,hT,ht,hnd⟩:=h
  have hs:=(St.nil w0).track hT (by simp)
  refine ret_of_xc Tryz.func250 (by kernel_rfl) rfl Tryz.ntmps250 rfl rfl rfl ?_
  repeat' (first|refine vs (k:=?_)|refine qRg ?_|refine Nx.h ?_|refine qCf ?_|fail)
  have ho1:Only [] w0 _:=hs.onlyF [] (by simp [hT]) (by simp [D0])
  (with_reducible apply xs_call);exact rfl;exact rfl;exact walk_ret t p fp _ [] [] _ (ht.keep ho1 (Nodes.nil _) (by simp)) (.inl ⟨rfl,rfl,rfl,rfl⟩) (by simpa using hlen)
  rintro v w' ⟨⟨G,hO,hG⟩,ho⟩
  replace hs:=hs.call0 ho
  rw [List.nil_append] at hO
  have hz:=ho1.size
  repeat' (first|refine vs (k:=?_)|refine Nx.h ?_|fail)
  first | refine rt (hq:=?_) | refine rt' (hq:=?_)
  exact ⟨⟨G,hO,fun k hk=>by rcases hG k hk with h | h;cases h;omega⟩,hs.onlyF [] (by simp [hT]) (by simp [D0])⟩
theorem rbLen_ret (tb:Nat) (t:RB IT) (F:List Nat) (w0:World) (h:Obj6 w0 tb t F) :
    Ret Tryz.prog 118 #[.pointer (some ⟨tb,0,none⟩)] w0 fun v w'=>v = .int .i64 (t.list.length:Nat)∧Only [] w0 w':=by
  obtain ⟨p,fp,rfl,hT,ht,hnd⟩:=h
  have hs:=(St.nil w0).track hT (by simp)
  refine ret_of_xc Tryz.func118 (by kernel_rfl) rfl Tryz.ntmps118 rfl rfl rfl ?_
  repeat' (first|refine vs (k:=?_)|refine qRg ?_|refine Nx.h ?_|refine qCf ?_|fail)
  first | refine rt (hq:=?_) | refine rt' (hq:=?_)
  exact ⟨rfl,hs.onlyF [] (by simp [hT]) (by simp [D0])⟩
theorem rbNewOf_ret (w0:World):Ret Tryz.prog 222 #[.func (.func 223) #[] #[],.func (.func 224) #[] #[],.func (.func 225) #[] #[]] w0 fun v w'=>(∃ tb F,v = .pointer (some ⟨tb,0,none⟩)∧Obj6 w' tb .nil F∧(∀ k∈F,w0.heap.size≤k))∧Only [] w0 w':=by
  have hs:=St.nil w0
  refine ret_of_xc Tryz.func222 (by kernel_rfl) rfl Tryz.ntmps222 rfl rfl rfl ?_
  refine xc_seq ?_
  refine xc_region ?_ ?_;exact rfl
  refine vs (k:=?_)
  refine XS.nil ?_
  refine then_of ?_
  refine xc_seq ?_
  refine xc_region ?_ ?_;exact rfl
  refine vs (k:=?_)
  refine vs (k:=?_)
  refine vs (k:=?_)
  refine vs (k:=?_)
  refine bx hs (k:=?_);intro b w hz hs
  repeat' (first|refine vs (k:=?_)|refine Nx.h ?_|fail)
  first | refine rt (hq:=?_) | refine rt' (hq:=?_)
  have hnew:=hs.new (b,true) (by simp) rfl
  exact ⟨⟨b,[b],rfl,⟨none,[],rfl,hs.get At.head,⟨rfl,rfl⟩,List.nodup_nil⟩,fun k hk=>by obtain rfl:=List.mem_singleton.1 hk;exact hnew⟩,hs.only0 rfl⟩
end Go.Proofs.YtalffooghioekaaGreatDoorX.IB

namespace Go.Proofs.YtalffooghioekaaGreatDoorX.IB
open Go Go.RowKit
attribute [local irreducible] XS XC XA thenE blockE retE loopE loopS cutB cutN doneE SE
theorem both_nodes {t:RB IT} (h:RB.both t=true):∃ a x b c1 y d z e c2 c,t = .node (.node a x b c1) y (.node d z e c2) c:=by
  cases t with
  | nil=>cases h
  | node l y r c =>
    cases l with
    | nil=>cases h
    | node a x b c1 =>
      cases r with
      | nil=>cases h
      | node d z e c2=>exact ⟨_,_,_,_,_,_,_,_,_,_,rfl⟩
theorem sub_up {w0 w:World} {fp fp1 fp2:List Nat} (h1:∀ k∈fp1,k∈fp∨w0.heap.size≤k) (h2:∀ k∈fp2,k∈fp1∨w.heap.size≤k) (hz:w0.heap.size≤w.heap.size):∀ k∈fp2,k∈fp∨w0.heap.size≤k:=fun k hk=>by
  rcases h2 k hk with h | h
  · exact h1 k h
  · exact .inr (by omega)
set_option maxHeartbeats 2000000 in
theorem redLeft_ret (tb:Nat) (p0:Option Addr) (n0:Int) (t:RB IT) (p:Option Addr) (fp:List Nat) (w0:World) (hT:w0.heap[tb]?=some (treeO p0 n0)) (h:TreeAt w0 t p fp) (hnd:fp.Nodup) (hlen:t.list.length≤1000000) (hb:RB.both t=true) :
    Ret Tryz.prog 264 #[.pointer (some ⟨tb,0,none⟩),.pointer p] w0 fun v w'=>Turned w0 fp (RB.redLeft t) v w':=by
  obtain ⟨a,x,b,c1,y,d,z,e,c2,c,rfl⟩:=both_nodes hb
  clear hb
  have hs:=St.nil w0
  refine ret_of_xc Tryz.func264 (by kernel_rfl) rfl Tryz.ntmps264 rfl rfl rfl ?_
  repeat' (first|refine vs (k:=?_)|refine qRg ?_|refine Nx.h ?_|fail)
  (with_reducible apply xs_call);exact rfl;exact rfl;exact rbFlip_ret a x b c1 y d z e c2 c p fp _ h hnd
  rintro v w1 ⟨k1,ho1⟩
  have hT1:=head_keep hT ho1 h.nodes
  clear hs h
  obtain ⟨m,av,pl,pr,fl,fr,rfl,rfl,hm,hav,hl,hr⟩:=k1
  have hr0:=hr
  obtain ⟨u,avu,pd,pe,fd,fe,rfl,rfl,hu,hau,hd,he⟩:=hr
  have hum:u≠m:=fun e=>by subst e;simp at hnd
  have hs:=((St.nil w1).track hm (by simp)).track hu (by simpa using hum)
  repeat' (first|refine vs (k:=?_)|refine qRg ?_|refine Nx.h ?_|fail)
  have ho2:Only [] w1 _:=hs.onlyF [] (by simp [hm,hu]) (by simp [D0])
  (with_reducible apply xs_call);exact rfl;exact rfl;exact isRed_ret d pd fd _ (hd.keep ho2 (Nodes.nil _) (by simp))
  rintro v w' ⟨rfl,ho⟩;replace hs:=hs.call0 ho
  cases hq:d.red
  · repeat' (first|refine vs (k:=?_)|refine qRg ?_|refine Nx.h ?_|refine qCf ?_|fail)
    first | refine rt (hq:=?_) | refine rt' (hq:=?_)
    have ho2:Only [] w1 _:=hs.onlyF [] (by simp [hm,hu]) (by simp [D0])
    have e1:RB.redLeft (.node (.node a x b c1) y (.node d z e c2) c) = .node (.node a x b !c1) y (.node d z e !c2) !c:=by
      simp [RB.redLeft,RB.flip,RB.right_node,RB.left_node,hq]
    rw [e1]
    exact ⟨_,_,rfl,TreeAt.keep ho2 (Nodes.nil _) ⟨m,av,pl,_,fl,_,rfl,rfl,hm,hav,hl,hr0⟩ (by simp),hnd,fun k hk => .inl hk,ho1.step ho2 (by simp)⟩
  · obtain ⟨da,v,de,rfl⟩:=RB.red_true hq
    have e1:RB.redLeft (.node (.node a x b c1) y (.node (.node da v de true) z e c2) c) = .node (.node (.node a x b !c1) y da (!true)) v (.node de z e (!true)) (!!c):=by
      simp [RB.redLeft,RB.flip,RB.right_node,RB.left_node,RB.red_node,RB.setR,RB.toRight,RB.toLeft]
    rw [e1]
    repeat' (first|refine vs (k:=?_)|refine qRg ?_|refine Nx.h ?_|refine qCt ?_|fail)
    have ho2:Only [] w1 _:=hs.onlyF [] (by simp [hm,hu]) (by simp [D0])
    have hl2:=hl.keep ho2 (Nodes.nil _) (by simp)
    have hr2:=hr0.keep ho2 (Nodes.nil _) (by simp)
    have hm2:=hs.get (At.tail At.head)
    have hT2:=head_keep hT1 ho2 (Nodes.nil _)
    have hO2:Only (m :: (fl ++ (u :: (fd ++ fe)))) w0 _:=ho1.step ho2 (by simp)
    simp only [RB.list,List.length_append,List.length_cons,List.append_assoc,List.cons_append] at hlen
    (with_reducible apply xs_call);exact rfl;exact rfl;exact toRight_ret tb p0 n0 da v de z e (!c2) true _ _ _ hT2 hr2.stale (by simp only [List.nodup_cons,List.nodup_append] at hnd ⊢;exact hnd.2.2.1) (by simp only [List.length_append,List.length_cons];omega)
    rintro v' w2 hk
    obtain ⟨p',hv⟩:∃ p',v' = .pointer p':=by obtain ⟨p',_,hv,_⟩:=hk;exact ⟨p',hv⟩
    subst hv
    obtain ⟨_,_,_,_,_,_,k4⟩:=id hk
    have hT3:=head_keep hT2 k4 hr2.nodes
    have hm3:=k4.block hm2 (fun h=>by simp only [List.nodup_cons,List.mem_append] at hnd;exact hnd.1 (.inr h))
    clear hs
    have hs:=(St.nil w2).track hm3 (by simp)
    repeat' (first|refine vs (k:=?_)|(refine st hs (k:=?_);intro w hs)|refine qRg ?_|refine Nx.h ?_|fail)
    have ho3:Only [m] w2 _:=hs.onlyF [m] (by simp) (by simp [D0])
    obtain ⟨fp2,s1,s2,s3,s4⟩:=graftR hm2 hl2 hr2.nodes hnd hk ho3 (hs.get At.head)
    have hsz:=hO2.size
    have s3':=sub_up (fp:=m :: (fl ++ (u :: (fd ++ fe)))) (fun k hk => .inl hk) s3 hsz
    have hO3:Only (m :: (fl ++ (u :: (fd ++ fe)))) w0 _:=hO2.step s4 (fun k hk => .inl hk)
    have hT4:=head_keep hT3 ho3 (Nodes.cons hm3 (Nodes.nil _))
    clear hs
    have hs:=St.nil w2
    (with_reducible apply xs_call);exact rfl;exact rfl;exact toLeft_ret tb p0 n0 (.node a x b !c1) y da v (.node de z e true) (!c) (!c2) _ fp2 _ hT4 s1 s2 (by simp only [RB.list,List.length_append,List.length_cons];omega)
    rintro v' w4 ⟨p3,fp3,rfl,k1,k2,k3,k5⟩
    have hT5:=head_keep hT4 k5 s1.nodes
    have k3':=sub_up s3' k3 hO3.size
    have hO4:=hO3.step k5 s3'
    clear hs
    have hs:=St.nil w4
    repeat' (first|refine vs (k:=?_)|refine qRg ?_|refine Nx.h ?_|fail)
    have ho6:=hs.only0 rfl
    (with_reducible apply xs_call);exact rfl;exact rfl;exact rbFlip_ret (.node a x b !c1) y da true v de z e true (!c) p3 fp3 _ (k1.keep ho6 (Nodes.nil _) (by simp)) k2
    rintro v' w5 ⟨k6,ho7⟩
    have hs:=St.nil w5
    repeat' (first|refine vs (k:=?_)|refine qRg ?_|refine Nx.h ?_|fail)
    first | refine rt (hq:=?_) | refine rt' (hq:=?_)
    exact ⟨p3,fp3,rfl,k6,k2,k3',(hO4.step ho6 (by simp)).step ho7 k3'⟩
set_option maxHeartbeats 2000000 in
theorem redRight_ret (tb:Nat) (p0:Option Addr) (n0:Int) (t:RB IT) (p:Option Addr) (fp:List Nat) (w0:World) (hT:w0.heap[tb]?=some (treeO p0 n0)) (h:TreeAt w0 t p fp) (hnd:fp.Nodup) (hlen:t.list.length≤1000000) (hb:RB.both t=true) :
    Ret Tryz.prog 266 #[.pointer (some ⟨tb,0,none⟩),.pointer p] w0 fun v w'=>Turned w0 fp (RB.redRight t) v w':=by
  obtain ⟨a,x,b,c1,y,d,z,e,c2,c,rfl⟩:=both_nodes hb
  clear hb
  have hs:=St.nil w0
  refine ret_of_xc Tryz.func266 (by kernel_rfl) rfl Tryz.ntmps266 rfl rfl rfl ?_
  repeat' (first|refine vs (k:=?_)|refine qRg ?_|refine Nx.h ?_|fail)
  (with_reducible apply xs_call);exact rfl;exact rfl;exact rbFlip_ret a x b c1 y d z e c2 c p fp _ h hnd
  rintro v w1 ⟨k1,ho1⟩
  have hT1:=head_keep hT ho1 h.nodes
  clear hs h
  have k0:=k1
  obtain ⟨m,av,pl,pr,fl,fr,rfl,rfl,hm,hav,hl,hr⟩:=k1
  obtain ⟨u,avu,pd,pe,fd,fe,rfl,rfl,hu,hau,hd,he⟩:=hl
  have hum:u≠m:=fun e=>by subst e;simp at hnd
  have hs:=((St.nil w1).track hm (by simp)).track hu (by simpa using hum)
  repeat' (first|refine vs (k:=?_)|refine qRg ?_|refine Nx.h ?_|fail)
  have ho2:Only [] w1 _:=hs.onlyF [] (by simp [hm,hu]) (by simp [D0])
  (with_reducible apply xs_call);exact rfl;exact rfl;exact isRed_ret a pd fd _ (hd.keep ho2 (Nodes.nil _) (by simp))
  rintro v w' ⟨rfl,ho⟩;replace hs:=hs.call0 ho
  cases hq:a.red
  · repeat' (first|refine vs (k:=?_)|refine qRg ?_|refine Nx.h ?_|refine qCf ?_|fail)
    first | refine rt (hq:=?_) | refine rt' (hq:=?_)
    have ho2:Only [] w1 _:=hs.onlyF [] (by simp [hm,hu]) (by simp [D0])
    have e1:RB.redRight (.node (.node a x b c1) y (.node d z e c2) c) = .node (.node a x b !c1) y (.node d z e !c2) !c:=by
      simp [RB.redRight,RB.flip,RB.right_node,RB.left_node,hq]
    rw [e1]
    exact ⟨_,_,rfl,k0.keep ho2 (Nodes.nil _) (by simp),hnd,fun k hk => .inl hk,ho1.step ho2 (by simp)⟩
  · obtain ⟨da,v,de,rfl⟩:=RB.red_true hq
    have e1:RB.redRight (.node (.node (.node da v de true) x b c1) y (.node d z e c2) c) = .node (.node da v de (!true)) x (.node b y (.node d z e !c2) (!true)) (!!c):=by
      simp [RB.redRight,RB.flip,RB.right_node,RB.left_node,RB.red_node,RB.toRight]
    rw [e1]
    repeat' (first|refine vs (k:=?_)|refine qRg ?_|refine Nx.h ?_|refine qCt ?_|fail)
    have ho2:Only [] w1 _:=hs.onlyF [] (by simp [hm,hu]) (by simp [D0])
    have hT2:=head_keep hT1 ho2 (Nodes.nil _)
    have hO2:Only (m :: ((u :: (fd ++ fe)) ++ fr)) w0 _:=ho1.step ho2 (by simp)
    simp only [RB.list,List.length_append,List.length_cons,List.append_assoc,List.cons_append] at hlen
    have k00:=k0.keep ho2 (Nodes.nil _) (by simp)
    (with_reducible apply xs_call);exact rfl;exact rfl;exact toRight_ret tb p0 n0 (.node da v de true) x b y (.node d z e !c2) (!c) (!c1) _ _ _ hT2 k00.stale hnd (by simp only [RB.list,List.length_append,List.length_cons];omega)
    rintro v' w4 ⟨p3,fp3,rfl,k1,k2,k3,k5⟩
    have k3':=sub_up (fun k hk => .inl hk) k3 hO2.size
    have hO4:=hO2.step k5 (fun k hk => .inl hk)
    clear hs
    have hs:=St.nil w4
    repeat' (first|refine vs (k:=?_)|refine qRg ?_|refine Nx.h ?_|fail)
    have ho6:=hs.only0 rfl
    (with_reducible apply xs_call);exact rfl;exact rfl;exact rbFlip_ret da v de true x b y (.node d z e !c2) true (!c) p3 fp3 _ (k1.keep ho6 (Nodes.nil _) (by simp)) k2
    rintro v' w5 ⟨k6,ho7⟩
    have hs:=St.nil w5
    repeat' (first|refine vs (k:=?_)|refine qRg ?_|refine Nx.h ?_|fail)
    first | refine rt (hq:=?_) | refine rt' (hq:=?_)
    exact ⟨p3,fp3,rfl,k6,k2,k3',(hO4.step ho6 (by simp)).step ho7 k3'⟩
end Go.Proofs.YtalffooghioekaaGreatDoorX.IB

namespace Go.Proofs.YtalffooghioekaaGreatDoorX.IB
open Go Go.RowKit
attribute [local irreducible] XS XC XA thenE blockE retE loopE loopS cutB cutN doneE SE
theorem downL_list {t u:RB IT} (h:RB.downL t=some u):u.list=t.list:=by
  unfold RB.downL at h
  cases hq:(!t.left.red && !t.left.left.red)
  · rw [hq,cond_false] at h;cases h;rfl
  · rw [hq,cond_true] at h
    cases hb:RB.both t
    · rw [hb] at h;cases h
    · rw [hb,cond_true] at h;cases h
      exact RB.list_redLeft t
theorem downR_list {t u:RB IT} (h:RB.downR t=some u):u.list=t.list:=by
  unfold RB.downR at h
  cases hq:(!t.right.red && !t.right.left.red)
  · rw [hq,cond_false] at h;cases h;rfl
  · rw [hq,cond_true] at h
    cases hb:RB.both t
    · rw [hb] at h;cases h
    · rw [hb,cond_true] at h;cases h
      exact RB.list_redRight t
theorem cutMin_len:∀ (k:Nat) (t t':RB IT),RB.cutMin k t=some t'→t'.list.length≤t.list.length
  | 0,t,t',h=>by cases h
  | k+1,t,t',h=>by
    simp only [RB.cutMin] at h
    cases h1:t.isNil
    · rw [h1,cond_false] at h
      cases h2:t.left.isNil
      · rw [h2,cond_false] at h
        cases hd:RB.downL t with
        | none=>rw [hd] at h;cases h
        | some u =>
          rw [hd] at h
          cases u with
          | nil=>cases h
          | node l x r c =>
            obtain ⟨l',hl,rfl⟩:=Option.map_eq_some_iff.1 h
            have:=cutMin_len k l l' hl
            rw [RB.list_mend,← downL_list hd]
            simp only [RB.list,List.length_append,List.length_cons]
            omega
      · rw [h2,cond_true] at h;cases h;simp [RB.list]
    · rw [h1,cond_true] at h;cases h
set_option maxHeartbeats 2000000 in
theorem cutMin_ret (tb:Nat) (p0:Option Addr) (n0:Int):∀ (k:Nat) (t t':RB IT) (p:Option Addr) (fp:List Nat) (w0:World) (hT:w0.heap[tb]?=some (treeO p0 n0)) (h:TreeAt w0 t p fp) (hnd:fp.Nodup) (hlen:t.list.length≤1000000) (hc:RB.cutMin k t=some t'),
    Ret Tryz.prog 267 #[.pointer (some ⟨tb,0,none⟩),.pointer p] w0 fun v w'=>Turned w0 fp t' v w'
  | 0,t,t',p,fp,w0,hT,h,hnd,hlen,hc=>by cases hc
  | k+1,.nil,t',p,fp,w0,hT,h,hnd,hlen,hc=>by cases hc
  | k+1,.node .nil x r c,t',p,fp,w0,hT,h,hnd,hlen,hc=>by
    simp only [RB.cutMin,RB.isNil,RB.left_node,cond_true,cond_false,Option.some.injEq] at hc
    subst hc
    obtain ⟨b,av,pl,pr,fl,fr,rfl,rfl,hb,hav,⟨rfl,rfl⟩,hr⟩:=h
    have hs:=(St.nil w0).track hb (by simp)
    refine ret_of_xc Tryz.func267 (by kernel_rfl) rfl Tryz.ntmps267 rfl rfl rfl ?_
    repeat' (first|refine vs (k:=?_)|refine qRg ?_|refine Nx.h ?_|refine qCt ?_|fail)
    first | refine rt (hq:=?_) | refine rt' (hq:=?_)
    exact ⟨none,[],rfl,⟨rfl,rfl⟩,List.nodup_nil,(fun k hk=>by cases hk),(hs.onlyF [] (by simp [hb]) (by simp [D0])).weaken (by simp)⟩
  | k+1,.node (.node ll z lr lc) x r c,t',p,fp,w0,hT,h,hnd,hlen,hc=>by
    rw [RB.cutMin] at hc
    simp only [RB.isNil,RB.left_node,cond_false] at hc
    have hH:Has w0 tb p0 n0 fp (.node (.node ll z lr lc) x r c) p w0:=⟨⟨fp,h,hnd,fun k hk => .inl hk,Only.refl _ _⟩,hT⟩
    obtain ⟨b,av,pl,pr,fl,fr,rfl,hf,hb,hav,hl,hr⟩:=h
    have hl0:=hl
    obtain ⟨u,avu,pll,plr,fll,flr,rfl,rfl,hu,hau,hll,hlr⟩:=hl
    have hub:u≠b:=fun e=>by subst e;rw [hf] at hnd;simp at hnd
    have hs:=((St.nil w0).track hb (by simp)).track hu (by simpa using hub)
    refine ret_of_xc Tryz.func267 (by kernel_rfl) rfl Tryz.ntmps267 rfl rfl rfl ?_
    repeat' (first|refine Nx.h ?_|fail)
    refine xc_region ?_ ?_;exact rfl
    repeat' (first|refine vs (k:=?_)|refine Nx.h ?_|fail)
    refine xc_region ?_ ?_;exact rfl
    repeat' (first|refine vs (k:=?_)|refine Nx.h ?_|refine qCf ?_|fail)
    refine xc_cutN (fun _:Unit=>[(0,.pointer (some ⟨tb,0,none⟩)),(1,.pointer (some ⟨b,0,none⟩)),(4,.pointer none),(26,.bool (!lc && !ll.red))]) (fun _ w=>Has w0 tb p0 n0 fp (.node (.node ll z lr lc) x r c) (some ⟨b,0,none⟩) w) ?_ ?_
    · repeat' (first|refine vs (k:=?_)|refine qRg ?_|fail)
      have ho2:Only [] w0 _:=hs.onlyF [] (by simp [hb,hu]) (by simp [D0])
      (with_reducible apply xs_call);exact rfl;exact rfl;exact isRed_ret _ _ _ _ (hl0.keep ho2 (Nodes.nil _) (by simp))
      rintro v w' ⟨rfl,ho⟩;replace hs:=hs.call0 ho
      rw [RB.red_node]
      cases lc
      · repeat' (first|refine vs (k:=?_)|fail)
        have ho2:Only [] w0 _:=hs.onlyF [] (by simp [hb,hu]) (by simp [D0])
        (with_reducible apply xs_call);exact rfl;exact rfl;exact isRed_ret _ _ _ _ (hll.keep ho2 (Nodes.nil _) (by simp))
        rintro v w' ⟨rfl,ho⟩;replace hs:=hs.call0 ho
        generalize hq2:ll.red=q2
        repeat' (first|refine vs (k:=?_)|refine Nx.h ?_|fail)
        exact cutN_normal () (by (repeat (first | exact agree_nil | (apply agree_cons;exact rfl)))) (hH.only (hs.onlyF [] (by simp [hb,hu]) (by simp [D0])))
      · repeat' (first|refine vs (k:=?_)|refine ps (k:=?_)|refine Nx.h ?_|fail)
        exact cutN_normal () (by (repeat (first | exact agree_nil | (apply agree_cons;exact rfl)))) (hH.only (hs.onlyF [] (by simp [hb,hu]) (by simp [D0])))
    clear hH hs hb hav hl0 hu hau hll hlr hr
    rintro _ env w hH
    obtain ⟨d,hd⟩:∃ d,RB.downL (.node (.node ll z lr lc) x r c)=some d:=by
      cases hd:RB.downL (.node (.node ll z lr lc) x r c) with
      | none=>rw [hd] at hc;cases hc
      | some d=>exact ⟨d,rfl⟩
    rw [hd] at hc
    have hdl:=downL_list hd
    refine xc_cutN (fun s:Option Addr=>[(0,.pointer (some ⟨tb,0,none⟩)),(1,.pointer s),(4,.pointer none)]) (fun s w=>Has w0 tb p0 n0 fp d s w) ?_ ?_
    · unfold RB.downL at hd
      rw [RB.left_node,RB.red_node,RB.left_node] at hd
      generalize hq:(!lc && !ll.red)=q at *
      cases q
      · repeat' (first|refine Nx.h ?_|refine qCf ?_|fail)
        cases hd
        exact cutN_normal _ (by (repeat (first | exact agree_nil | (apply agree_cons;exact rfl)))) hH
      · rw [cond_true] at hd
        cases hbo:RB.both (.node (.node ll z lr lc) x r c)
        · rw [hbo] at hd;cases hd
        rw [hbo,cond_true] at hd
        cases hd
        obtain ⟨⟨fp1,h1,h2,h3,h4⟩,h5⟩:=hH
        have hs:=St.nil w
        repeat' (first|refine vs (k:=?_)|refine qRg ?_|refine qCt ?_|fail)
        (with_reducible apply xs_call);exact rfl;exact rfl;exact redLeft_ret tb p0 n0 _ _ _ _ h5 h1 h2 hlen hbo
        rintro v w' hv
        obtain ⟨p',rfl,hH⟩:=Has.next h1 h3 h4 h5 hv
        have hs:=St.nil w'
        repeat' (first|refine vs (k:=?_)|refine Nx.h ?_|fail)
        exact cutN_normal p' (by (repeat (first | exact agree_nil | (apply agree_cons;exact rfl)))) hH
    clear hH
    rintro p1 env w hH
    cases d with
    | nil=>cases hc
    | node l1 x1 r1 c1 =>
    obtain ⟨l',hl',rfl⟩:=Option.map_eq_some_iff.1 hc
    obtain ⟨⟨fp1,⟨b,av,pl,pr,fl,fr,rfl,rfl,hb,hav,hl,hr⟩,h2,h3,h4⟩,h5⟩:=hH
    have hbt:=head_ne h5 hb
    have hs:=(St.nil w).track hb (by simp)
    rw [← hdl] at hlen
    simp only [RB.list,List.length_append,List.length_cons] at hlen
    repeat' (first|refine vs (k:=?_)|refine qRg ?_|refine Nx.h ?_|fail)
    have ho1:Only [] w _:=hs.onlyF [] (by simp [hb]) (by simp [D0])
    have hlw:=hl.keep ho1 (Nodes.nil _) (by simp)
    have hrw:=hr.keep ho1 (Nodes.nil _) (by simp)
    have hbw:=hs.get At.head
    have hTw:=head_keep h5 ho1 (Nodes.nil _)
    (with_reducible apply xs_call);exact rfl;exact rfl;exact cutMin_ret tb p0 n0 k l1 l' pl fl _ hTw hlw (by simp only [List.nodup_cons,List.nodup_append] at h2;exact h2.2.1) (by omega) hl'
    rintro v w' hk
    obtain ⟨p',hv⟩:∃ p',v = .pointer p':=by obtain ⟨p',_,hv,_⟩:=hk;exact ⟨p',hv⟩
    subst hv
    obtain ⟨_,_,_,_,_,_,k4⟩:=id hk
    have hT1:=head_keep hTw k4 hlw.nodes
    have hb1:=k4.block hbw (fun h=>by simp [h] at h2)
    clear hs
    have hs:=(St.nil w').track hb1 (by simp)
    repeat' (first|refine vs (k:=?_)|(refine st hs (k:=?_);intro w hs)|refine qRg ?_|refine Nx.h ?_|fail)
    have ho3:Only [b] w' _:=hs.onlyF [b] (by simp) (by simp [D0])
    obtain ⟨fp2,s1,s2,s3,s4⟩:=graftL hbw hlw.nodes hrw h2 hk ho3 (hs.get At.head)
    have hln:=cutMin_len k l1 l' hl'
    (with_reducible apply xs_call);exact rfl;exact rfl;exact mend_ret tb p0 n0 _ x1 _ c1 _ _ _ (head_keep hT1 ho3 (Nodes.cons hb1 (Nodes.nil _))) s1 s2 (by simp only [List.length_append,List.length_cons];omega)
    rintro v w3 hm
    have hO:=(h4.step ho1 (by simp)).step s4 h3
    have hm2:=hm.up hO (sub_up h3 s3 (h4.step ho1 (by simp)).size)
    have hs:=St.nil w3
    repeat' (first|refine vs (k:=?_)|refine Nx.h ?_|fail)
    first | refine rt (hq:=?_) | refine rt' (hq:=?_)
    exact hm2
end Go.Proofs.YtalffooghioekaaGreatDoorX.IB

namespace Go.Proofs.YtalffooghioekaaGreatDoorX.IB
open Go Go.RowKit
attribute [local irreducible] XS XC XA thenE blockE retE loopE loopS cutB cutN doneE SE
abbrev itqO (a:It):Obj := .cells #[.int .u64 a.p.t,.int .u32 a.p.r,.int .u32 a.p.w,.int .i64 a.id,.int .u64 a.d.t,.int .u32 a.d.r,.int .u32 a.d.w] 64 (0,0)
theorem nodes_q {w:World} {F:List Nat} (h:Nodes w F) {bq:Nat} {a:It} (hQ:w.heap[bq]?=some (itqO a)):bq∉F:=fun hm=>by
  obtain ⟨cs,fz,h1⟩:=h bq hm
  exact blocks_ne hQ h1 (by decide) rfl
structure HasQ (bq:Nat) (a:It) (w0:World) (tb:Nat) (p0:Option Addr) (n0:Int) (fp:List Nat) (t:RB IT) (p:Option Addr) (w:World):Prop where
  base:Has w0 tb p0 n0 fp t p w
  q:w.heap[bq]?=some (itqO a)
theorem HasQ.only {bq:Nat} {a:It} {w0 w w':World} {tb:Nat} {p0:Option Addr} {n0:Int} {fp:List Nat} {t:RB IT} {p:Option Addr} (h:HasQ bq a w0 tb p0 n0 fp t p w) (ho:Only [] w w'):HasQ bq a w0 tb p0 n0 fp t p w':=⟨h.base.only ho,ho.block h.q (by simp)⟩
theorem HasQ.next {bq:Nat} {a:It} {w0 w w':World} {tb:Nat} {p0:Option Addr} {n0:Int} {fp fp1:List Nat} {t t':RB IT} {p:Option Addr} {v:Value} (h1:TreeAt w t p fp1) (h2:∀ k∈fp1,k∈fp∨w0.heap.size≤k) (h3:Only fp w0 w) (h4:w.heap[tb]?=some (treeO p0 n0)) (hQ:w.heap[bq]?=some (itqO a)) (k:Turned w fp1 t' v w') :
    ∃ p',v = .pointer p'∧HasQ bq a w0 tb p0 n0 fp t' p' w':=by
  obtain ⟨p',e,h⟩:=Has.next h1 h2 h3 h4 k
  obtain ⟨_,_,_,_,_,_,ko⟩:=k
  exact ⟨p',e,h,ko.block hQ (nodes_q h1.nodes hQ)⟩
theorem cut_len (x:IT):∀ (k:Nat) (t t':RB IT),RB.cut ltT x k t=some t'→t'.list.length≤t.list.length
  | 0,t,t',h=>by cases h
  | k+1,.nil,t',h=>by cases h
  | k+1,.node l y r c,t',h=>by
    rw [RB.cut] at h
    cases hxy:ltT x y
    · rw [hxy,cond_false] at h
      have hu:(bif l.red then RB.toRight (.node l y r c) else .node l y r c:RB IT).list=(RB.node l y r c).list:=by
        cases l.red
        · rfl
        · exact RB.list_toRight _
      generalize (bif l.red then RB.toRight (.node l y r c) else .node l y r c:RB IT)=u at h hu
      cases h2:u.right.isNil
      · rw [h2,cond_false] at h
        cases hd:RB.downR u with
        | none=>rw [hd] at h;cases h
        | some d =>
          rw [hd] at h
          have hdl:=downR_list hd
          cases d with
          | nil=>cases h
          | node l2 y2 r2 c2 =>
            simp only at h
            rw [← hu,← hdl]
            cases h3:ltT y2 x
            · rw [h3,cond_false] at h
              cases hm:RB.least r2 with
              | none=>rw [hm] at h;cases h
              | some m =>
                rw [hm] at h
                obtain ⟨r',hr',rfl⟩:=Option.map_eq_some_iff.1 h
                have:=cutMin_len k r2 r' hr'
                rw [RB.list_mend]
                simp only [RB.list,List.length_append,List.length_cons]
                omega
            · rw [h3,cond_true] at h
              obtain ⟨r',hr',rfl⟩:=Option.map_eq_some_iff.1 h
              have:=cut_len x k r2 r' hr'
              rw [RB.list_mend]
              simp only [RB.list,List.length_append,List.length_cons]
              omega
      · rw [h2,cond_true] at h;cases h;simp [RB.list]
    · rw [hxy,cond_true] at h
      cases h2:l.isNil
      · rw [h2,cond_false] at h
        cases hd:RB.downL (.node l y r c) with
        | none=>rw [hd] at h;cases h
        | some d =>
          rw [hd] at h
          have hdl:=downL_list hd
          cases d with
          | nil=>cases h
          | node l2 y2 r2 c2 =>
            obtain ⟨l',hl',rfl⟩:=Option.map_eq_some_iff.1 h
            have:=cut_len x k l2 l' hl'
            rw [RB.list_mend,← hdl]
            simp only [RB.list,List.length_append,List.length_cons]
            omega
      · rw [h2,cond_true] at h;cases h
set_option maxHeartbeats 4000000 in
theorem cut_ret (tb:Nat) (p0:Option Addr) (n0:Int) (x:IT):∀ (k:Nat) (t t':RB IT) (p:Option Addr) (fp:List Nat) (w0:World) (hT:w0.heap[tb]?=some (treeO p0 n0)) (h:TreeAt w0 t p fp) (hnd:fp.Nodup) (hlen:t.list.length≤1000000) (hc:RB.cut ltT x k t=some t'),
    Ret Tryz.prog 257 #[.pointer (some ⟨tb,0,none⟩),.pointer p,iv x.1] w0 fun v w'=>Turned w0 fp t' v w'
  | 0,t,t',p,fp,w0,hT,h,hnd,hlen,hc=>by cases hc
  | k+1,.nil,t',p,fp,w0,hT,h,hnd,hlen,hc=>by cases hc
  | k+1,.node l y r c,t',p,fp,w0,hT,h,hnd,hlen,hc=>by
    rw [RB.cut] at hc
    have hH0:Has w0 tb p0 n0 fp (.node l y r c) p w0:=⟨⟨fp,h,hnd,fun k hk => .inl hk,Only.refl _ _⟩,hT⟩
    obtain ⟨b,av,pl,pr,fl,fr,rfl,hf,hb,hav,hl,hr⟩:=h
    have hbt:=head_ne hT hb
    have hs:=((St.nil w0).track hT (by simp)).track hb (by simpa using hbt)
    refine ret_of_xc Tryz.func257 (by kernel_rfl) rfl Tryz.ntmps257 rfl rfl rfl ?_;refine xc_seq ?_;refine xc_region ?_ ?_;exact rfl;refine bx hs (k:=?_);intro bq wq hzq hs;repeat' (first|refine vs (k:=?_)|refine Nx.h ?_|fail)
    have hbq:=hs.new (bq,true) (by simp) rfl
    simp only at hbq
    refine dr [] hs (k:=?_);intro hX w hs
    refine tk 0 hX (k:=?_)
    refine tk 1 hX (k:=?_)
    refine tk 2 hX (k:=?_)
    refine tk 3 hX (k:=?_)
    refine tk 4 hX (k:=?_)
    refine tk 5 hX (k:=?_)
    refine tk 6 hX (k:=?_)
    refine tk 7 hX (k:=?_)
    refine tk 8 hX (k:=?_)
    refine dt 9 hX (k:=?_)
    (with_reducible apply xs_call);exact rfl;exact rfl;exact ahd_ret x y _
    rintro v w1 ⟨rfl,ho⟩;replace hs:=hs.call0 ho
    repeat' (first|refine Nx.h ?_|fail)
    refine dn (k:=?_)
    refine en (k:=?_)
    have ho1:Only [] w0 w1:=hs.onlyF [] (by simp [hT,hb]) (by simp [D0])
    have hQ:=hs.get At.head
    have hH:HasQ bq x.1 w0 tb p0 n0 fp (.node l y r c) (some ⟨b,0,none⟩) w1:=⟨hH0.only ho1,hQ⟩
    have hT1:=hs.get (At.tail (At.tail At.head))
    have hb1:=hs.get (At.tail At.head)
    have hl1:=hl.keep ho1 (Nodes.nil _) (by simp)
    have hr1:=hr.keep ho1 (Nodes.nil _) (by simp)
    generalize hq:ltT x y=q
    rw [show ltT x y=q from hq] at hc
    clear hs hH0 hT hb hl hr ho hav
    cases q
    · rw [cond_false] at hc
      have hs:=(St.nil w1).track hb1 (by simp)
      repeat' (first|refine Nx.h ?_|refine qCf ?_|fail)
      refine xc_cutN (fun _:Unit=>[(0,.pointer (some ⟨tb,0,none⟩)),(1,.pointer (some ⟨b,0,none⟩)),(5,.pointer (some ⟨bq,0,none⟩)),(6,.pointer none),(55,.bool l.red)]) (fun _ w=>HasQ bq x.1 w0 tb p0 n0 fp (.node l y r c) (some ⟨b,0,none⟩) w) ?_ ?_
      · repeat' (first|refine vs (k:=?_)|refine qRg ?_|fail)
        have ho2:Only [] w1 _:=hs.onlyF [] (by simp [hb1]) (by simp [D0])
        (with_reducible apply xs_call);exact rfl;exact rfl;exact isRed_ret _ _ _ _ (hl1.keep ho2 (Nodes.nil _) (by simp))
        rintro v w' ⟨rfl,ho⟩;replace hs:=hs.call0 ho
        generalize hq2:l.red=q2
        repeat' (first|refine Nx.h ?_|fail)
        exact cutN_normal () (by (repeat (first | exact agree_nil | (apply agree_cons;exact rfl)))) (hH.only (hs.onlyF [] (by simp [hb1]) (by simp [D0])))
      clear hH hs hb1 hl1 hr1 hT1
      rintro _ env w hH
      refine xc_cutN (fun s:Option Addr=>[(0,.pointer (some ⟨tb,0,none⟩)),(1,.pointer s),(5,.pointer (some ⟨bq,0,none⟩)),(6,.pointer none)]) (fun s w=>HasQ bq x.1 w0 tb p0 n0 fp (bif l.red then RB.toRight (.node l y r c) else .node l y r c) s w) ?_ ?_
      · cases hq2:l.red
        · repeat' (first|refine Nx.h ?_|refine qCf ?_|fail)
          exact cutN_normal _ (by (repeat (first | exact agree_nil | (apply agree_cons;exact rfl)))) hH
        · obtain ⟨ll,z,lr,rfl⟩:=RB.red_true hq2
          obtain ⟨⟨⟨fp1,h1,h2,h3,h4⟩,h5⟩,hQ⟩:=hH
          have hs:=St.nil w
          repeat' (first|refine vs (k:=?_)|refine qRg ?_|refine qCt ?_|fail)
          (with_reducible apply xs_call);exact rfl;exact rfl;exact toRight_ret tb p0 n0 ll z lr y r c true _ _ _ h5 h1.stale h2 (by simpa [RB.list] using hlen)
          rintro v w' hv
          obtain ⟨p',rfl,hH⟩:=HasQ.next h1 h3 h4 h5 hQ hv
          have hs:=St.nil w'
          repeat' (first|refine vs (k:=?_)|refine Nx.h ?_|fail)
          exact cutN_normal p' (by (repeat (first | exact agree_nil | (apply agree_cons;exact rfl)))) hH
      clear hH
      rintro p1 env w hH
      obtain ⟨l1,y1,r1,c1,hu,hul⟩:∃ l1 y1 r1 c1,(bif l.red then RB.toRight (.node l y r c) else .node l y r c:RB IT) = .node l1 y1 r1 c1∧(RB.node l1 y1 r1 c1).list=(RB.node l y r c).list:=by
        cases hq2:l.red
        · exact ⟨_,_,_,_,rfl,rfl⟩
        · obtain ⟨ll,z,lr,rfl⟩:=RB.red_true hq2
          exact ⟨_,_,_,_,rfl,RB.list_toRight (.node (.node ll z lr true) y r c)⟩
      rw [hu] at hH hc
      rw [RB.right_node] at hc
      obtain ⟨⟨⟨fp1,⟨b,av,pl,pr,fl,fr,rfl,hf1,hb,hav,hl,hr⟩,h2,h3,h4⟩,h5⟩,hQ⟩:=hH
      have hH:HasQ bq x.1 w0 tb p0 n0 fp (.node l1 y1 r1 c1) (some ⟨b,0,none⟩) w:=⟨⟨⟨fp1,⟨b,av,pl,pr,fl,fr,rfl,hf1,hb,hav,hl,hr⟩,h2,h3,h4⟩,h5⟩,hQ⟩
      cases r1 with
      | nil =>
        simp only [RB.isNil,cond_true,Option.some.injEq] at hc
        subst hc
        obtain ⟨rfl,rfl⟩:=hr
        have hs:=(St.nil w).track hb (by simp)
        repeat' (first|refine vs (k:=?_)|refine qRg ?_|refine Nx.h ?_|refine qCt ?_|fail)
        first | refine rt (hq:=?_) | refine rt' (hq:=?_)
        exact ⟨none,[],rfl,⟨rfl,rfl⟩,List.nodup_nil,(fun k hk=>by cases hk),h4.step (hs.onlyF [] (by simp [hb]) (by simp [D0])) (by simp)⟩
      | node rl z rr rc =>
      simp only [RB.isNil,cond_false] at hc
      have hr0:=hr
      obtain ⟨u,avu,pll,plr,fll,flr,rfl,hf2,hu',hau,hll,hlr⟩:=hr
      have hub:u≠b:=fun e=>by subst e;rw [hf1,hf2] at h2;simp at h2
      have hs:=((St.nil w).track hb (by simp)).track hu' (by simpa using hub)
      repeat' (first|refine Nx.h ?_|fail)
      refine xc_region ?_ ?_;exact rfl
      repeat' (first|refine vs (k:=?_)|refine Nx.h ?_|refine qCf ?_|fail)
      refine xc_cutN (fun _:Unit=>[(0,.pointer (some ⟨tb,0,none⟩)),(1,.pointer (some ⟨b,0,none⟩)),(5,.pointer (some ⟨bq,0,none⟩)),(6,.pointer none),(80,.bool (!rc && !rl.red))]) (fun _ w=>HasQ bq x.1 w0 tb p0 n0 fp (.node l1 y1 (.node rl z rr rc) c1) (some ⟨b,0,none⟩) w) ?_ ?_
      · repeat' (first|refine vs (k:=?_)|refine qRg ?_|fail)
        have ho2:Only [] w _:=hs.onlyF [] (by simp [hb,hu']) (by simp [D0])
        (with_reducible apply xs_call);exact rfl;exact rfl;exact isRed_ret _ _ _ _ (hr0.keep ho2 (Nodes.nil _) (by simp))
        rintro v w' ⟨rfl,ho⟩;replace hs:=hs.call0 ho
        rw [RB.red_node]
        cases rc
        · repeat' (first|refine vs (k:=?_)|fail)
          have ho2:Only [] w _:=hs.onlyF [] (by simp [hb,hu']) (by simp [D0])
          (with_reducible apply xs_call);exact rfl;exact rfl;exact isRed_ret _ _ _ _ (hll.keep ho2 (Nodes.nil _) (by simp))
          rintro v w' ⟨rfl,ho⟩;replace hs:=hs.call0 ho
          generalize hq2:rl.red=q2
          repeat' (first|refine vs (k:=?_)|refine Nx.h ?_|fail)
          exact cutN_normal () (by (repeat (first | exact agree_nil | (apply agree_cons;exact rfl)))) (hH.only (hs.onlyF [] (by simp [hb,hu']) (by simp [D0])))
        · repeat' (first|refine vs (k:=?_)|refine ps (k:=?_)|refine Nx.h ?_|fail)
          exact cutN_normal () (by (repeat (first | exact agree_nil | (apply agree_cons;exact rfl)))) (hH.only (hs.onlyF [] (by simp [hb,hu']) (by simp [D0])))
      clear hH hs hb hl hr0 hu' hau hll hlr h2 h3 h4 h5 hav hf1 hf2
      rintro _ env w hH
      obtain ⟨d,hd⟩:∃ d,RB.downR (.node l1 y1 (.node rl z rr rc) c1)=some d:=by
        cases hd:RB.downR (.node l1 y1 (.node rl z rr rc) c1) with
        | none=>rw [hd] at hc;cases hc
        | some d=>exact ⟨d,rfl⟩
      rw [hd] at hc
      have hdl:=downR_list hd
      rw [hul] at hdl
      refine xc_cutN (fun s:Option Addr=>[(0,.pointer (some ⟨tb,0,none⟩)),(1,.pointer s),(5,.pointer (some ⟨bq,0,none⟩)),(6,.pointer none)]) (fun s w=>HasQ bq x.1 w0 tb p0 n0 fp d s w) ?_ ?_
      · unfold RB.downR at hd
        rw [RB.right_node,RB.red_node,RB.left_node] at hd
        generalize hq:(!rc && !rl.red)=q at *
        cases q
        · repeat' (first|refine Nx.h ?_|refine qCf ?_|fail)
          cases hd
          exact cutN_normal _ (by (repeat (first | exact agree_nil | (apply agree_cons;exact rfl)))) hH
        · rw [cond_true] at hd
          cases hbo:RB.both (.node l1 y1 (.node rl z rr rc) c1)
          · rw [hbo] at hd;cases hd
          rw [hbo,cond_true] at hd
          cases hd
          obtain ⟨⟨⟨fp1,h1,h2,h3,h4⟩,h5⟩,hQ⟩:=hH
          have hs:=St.nil w
          repeat' (first|refine vs (k:=?_)|refine qRg ?_|refine qCt ?_|fail)
          (with_reducible apply xs_call);exact rfl;exact rfl;exact redRight_ret tb p0 n0 _ _ _ _ h5 h1 h2 (by rw [hul];exact hlen) hbo
          rintro v w' hv
          obtain ⟨p',rfl,hH⟩:=HasQ.next h1 h3 h4 h5 hQ hv
          have hs:=St.nil w'
          repeat' (first|refine vs (k:=?_)|refine Nx.h ?_|fail)
          exact cutN_normal p' (by (repeat (first | exact agree_nil | (apply agree_cons;exact rfl)))) hH
      clear hH
      rintro p2 env wB hH
      cases d with
      | nil=>cases hc
      | node l2 y2 r2 c2 =>
      simp only at hc
      obtain ⟨⟨⟨fp1,⟨b,av,pl,pr,fl,fr,rfl,rfl,hb,hav,hl,hr⟩,h2,h3,h4⟩,h5⟩,hQ⟩:=hH
      have hbt:=head_ne h5 hb
      have n1:=blocks_ne hQ hb (by decide)
      have n2:=blocks_ne hQ h5 (by decide)
      have hs:=(((St.nil wB).track h5 (by simp)).track hb (by simpa using hbt)).track hQ (by simp [n1,n2])
      rw [← hdl] at hlen
      simp only [RB.list,List.length_append,List.length_cons] at hlen
      repeat' (first|refine Nx.h ?_|fail)
      refine dr [] hs (k:=?_);intro hX w hs
      refine tk 0 hX (k:=?_)
      refine tk 1 hX (k:=?_)
      refine tk 2 hX (k:=?_)
      refine tk 3 hX (k:=?_)
      refine tk 4 hX (k:=?_)
      refine tk 5 hX (k:=?_)
      refine tk 6 hX (k:=?_)
      refine tk 7 hX (k:=?_)
      refine tk 8 hX (k:=?_)
      refine dt 9 hX (k:=?_)
      (with_reducible apply xs_call);exact rfl;exact rfl;exact ahd_ret y2 x _
      rintro v w' ⟨rfl,ho⟩;replace hs:=hs.call0 ho
      repeat' (first|refine Nx.h ?_|fail)
      refine dn (k:=?_)
      refine en (k:=?_)
      generalize hq3:ltT y2 x=q3
      rw [show ltT y2 x=q3 from hq3] at hc
      have ho1:Only [] wB _:=hs.onlyF [] (by simp [h5,hb,hQ]) (by simp [D0])
      have hlw:=hl.keep ho1 (Nodes.nil _) (by simp)
      have hrw:=hr.keep ho1 (Nodes.nil _) (by simp)
      have hbw:=hs.get (At.tail At.head)
      have hTw:=hs.get (At.tail (At.tail At.head))
      have hQw:=hs.get At.head
      have hO1:=h4.step ho1 (by simp)
      have hndr:fr.Nodup:=by simp only [List.nodup_cons,List.nodup_append] at h2;exact h2.2.2.1
      cases q3
      · rw [cond_false] at hc
        obtain ⟨m,hm⟩:∃ m,RB.least r2=some m:=by
          cases hm:RB.least r2 with
          | none=>rw [hm] at hc;cases hc
          | some m=>exact ⟨m,rfl⟩
        rw [hm] at hc
        obtain ⟨r',hr',rfl⟩:=Option.map_eq_some_iff.1 hc
        clear hs
        have hs:=(St.nil w').track hbw (by simp)
        repeat' (first|refine vs (k:=?_)|refine qRg ?_|refine Nx.h ?_|refine qCf ?_|fail)
        refine xc_cutB (fun q:Nat=>[(0,.pointer (some ⟨tb,0,none⟩)),(1,.pointer (some ⟨b,0,none⟩)),(5,.pointer (some ⟨bq,0,none⟩)),(6,.pointer none),(7,.pointer (some ⟨q,0,none⟩))]) (fun q w2=>Only [] w' w2∧q∈fr∧∃ av' pl' pr' c',w'.heap[q]?=some (nodeO m av' pl' pr' c')) ?_ ?_
        · refine xc_loopS (fun (s:RB IT × Option Addr)=>[(0,.pointer (some ⟨tb,0,none⟩)),(1,.pointer (some ⟨b,0,none⟩)),(5,.pointer (some ⟨bq,0,none⟩)),(6,.pointer none),(7,.pointer s.2)])
            (fun s w2=>Only [] w' w2∧RB.least s.1=some m∧∃ fps,TreeAt w' s.1 s.2 fps∧∀ k∈fps,k∈fr)
            (fun s=>s.1.list.length) (r2,pr) (by (repeat (first | exact agree_nil | (apply agree_cons;exact rfl)))) ⟨hs.onlyF [] (by simp [hbw]) (by simp [D0]),hm,fr,hrw,fun k hk=>hk⟩ fun s env w2 ⟨g1,g2,fps,g3,g4⟩=>?_
          clear hs
          obtain ⟨s,ps⟩:=s
          dsimp only at g2 g3 ⊢
          cases s with
          | nil=>cases g2
          | node sl sz sr sc =>
          obtain ⟨q,avq,pql,pqr,fql,fqr,rfl,rfl,hqb,hqa,hql,hqr⟩:=g3
          have hq2:=g1.block hqb (by simp)
          have hs:=(St.nil w2).track hq2 (by simp)
          cases sl with
          | nil =>
            obtain ⟨rfl,rfl⟩:=hql
            simp only [RB.least,Option.some.injEq] at g2
            subst g2
            repeat' (first|refine vs (k:=?_)|refine qRg ?_|refine Nx.h ?_|refine qCf ?_|fail)
            exact cutB_exit q (by (repeat (first | exact agree_nil | (apply agree_cons;exact rfl)))) ⟨g1.step (hs.onlyF [] (by simp [hq2]) (by simp [D0])) (by simp),g4 q List.mem_cons_self,_,_,_,_,hqb⟩
          | node a1 a2 a3 a4 =>
            have hql0:=hql
            obtain ⟨_,_,_,_,_,_,rfl,_⟩:=hql
            repeat' (first|refine vs (k:=?_)|refine qRg ?_|refine Nx.h ?_|refine qCt ?_|fail)
            exact loopS_next (.node a1 a2 a3 a4,_) (by simp only [RB.list,List.length_append,List.length_cons];omega) (by (repeat (first | exact agree_nil | (apply agree_cons;exact rfl)))) ⟨g1.step (hs.onlyF [] (by simp [hq2]) (by simp [D0])) (by simp),g2,fql,hql0,fun k hk=>g4 k (List.mem_cons_of_mem _ (List.mem_append_left _ hk))⟩
        · clear hs
          rintro q env w2 ⟨g1,g2,avq,plq,prq,cq,g3⟩
          have hqb:q≠b:=fun e=>by subst e;simp [g2] at h2
          have hb2:=g1.block hbw (by simp)
          have hq2:=g1.block g3 (by simp)
          have hs:=((St.nil w2).track hb2 (by simp)).track hq2 (by simpa using hqb)
          repeat' (first|refine vs (k:=?_)|(refine stA hs (k:=?_);intro w hs)|refine qRg ?_|refine Nx.h ?_|fail)
          have ho2:Only [b] w2 _:=hs.onlyF [b] (by simp [hq2]) (by simp [D0])
          have hN:Nodes w2 [b]:=Nodes.cons hb2 (Nodes.nil _)
          have hbn:b∉fl∧b∉fr:=by simp only [List.nodup_cons,List.mem_append,not_or] at h2;exact h2.1
          have hl3:=(hlw.keep g1 (Nodes.nil _) (by simp)).keep ho2 hN (fun k hk hm=>by obtain rfl:=List.mem_singleton.1 hm;exact hbn.1 hk)
          have hr3:=(hrw.keep g1 (Nodes.nil _) (by simp)).keep ho2 hN (fun k hk hm=>by obtain rfl:=List.mem_singleton.1 hm;exact hbn.2 hk)
          have hb3:=hs.get (At.tail At.head)
          have hT3:=head_keep (head_keep hTw g1 (Nodes.nil _)) ho2 hN
          have hO3:=(hO1.step g1 (by simp)).step ho2 (fun k hk=>by obtain rfl:=List.mem_singleton.1 hk;exact h3 k List.mem_cons_self)
          (with_reducible apply xs_call);exact rfl;exact rfl;exact cutMin_ret tb p0 n0 k r2 r' pr fr _ hT3 hr3 hndr (by omega) hr'
          rintro v w4 hk
          obtain ⟨p',hv⟩:∃ p',v = .pointer p':=by obtain ⟨p',_,hv,_⟩:=hk;exact ⟨p',hv⟩
          subst hv
          obtain ⟨_,_,_,_,_,_,k4⟩:=id hk
          have hT4:=head_keep hT3 k4 hr3.nodes
          have hb4:=k4.block hb3 hbn.2
          clear hs
          have hs:=(St.nil w4).track hb4 (by simp)
          repeat' (first|refine vs (k:=?_)|(refine st hs (k:=?_);intro w hs)|refine qRg ?_|refine Nx.h ?_|fail)
          have ho5:Only [b] w4 _:=hs.onlyF [b] (by simp) (by simp [D0])
          obtain ⟨fp2,s1,s2,s3,s4⟩:=graftR hb3 hl3 hr3.nodes h2 hk ho5 (hs.get At.head)
          have hln:=cutMin_len k r2 r' hr'
          (with_reducible apply xs_call);exact rfl;exact rfl;exact mend_ret tb p0 n0 _ m _ c2 _ _ _ (head_keep hT4 ho5 (Nodes.cons hb4 (Nodes.nil _))) s1 s2 (by simp only [List.length_append,List.length_cons];omega)
          rintro v w5 hm
          have hO:=hO3.step s4 h3
          have hm2:=hm.up hO (sub_up h3 s3 hO3.size)
          have hs:=St.nil w5
          repeat' (first|refine vs (k:=?_)|refine Nx.h ?_|fail)
          first | refine rt (hq:=?_) | refine rt' (hq:=?_)
          exact hm2
      · rw [cond_true] at hc
        obtain ⟨r',hr',rfl⟩:=Option.map_eq_some_iff.1 hc
        repeat' (first|refine Nx.h ?_|refine qCt ?_|fail)
        refine dr [10] hs (k:=?_);intro hX w hs
        refine tk 0 hX (k:=?_)
        refine tk 1 hX (k:=?_)
        refine tk 2 hX (k:=?_)
        refine tk 3 hX (k:=?_)
        refine tk 4 hX (k:=?_)
        refine tk 5 hX (k:=?_)
        refine tk 6 hX (k:=?_)
        refine dt 7 hX (k:=?_)
        have ho1:Only [] wB _:=hs.onlyF [] (by simp [h5,hb,hQ]) (by simp [D0])
        have hlw:=hl.keep ho1 (Nodes.nil _) (by simp)
        have hrw:=hr.keep ho1 (Nodes.nil _) (by simp)
        have hbw:=hs.get (At.tail At.head)
        have hTw:=hs.get (At.tail (At.tail At.head))
        have hQw:=hs.get At.head
        have hO1:=h4.step ho1 (by simp)
        (with_reducible apply xs_call);exact rfl;exact rfl;exact cut_ret tb p0 n0 x k r2 r' pr fr _ hTw hrw hndr (by omega) hr'
        rintro v w4 hk
        obtain ⟨p',hv⟩:∃ p',v = .pointer p':=by obtain ⟨p',_,hv,_⟩:=hk;exact ⟨p',hv⟩
        subst hv
        obtain ⟨_,_,_,_,_,_,k4⟩:=id hk
        have hT1:=head_keep hTw k4 hrw.nodes
        have hb1:=k4.block hbw (fun h=>by simp [h] at h2)
        have hq1:=k4.block hQw (nodes_q hrw.nodes hQw)
        clear hs
        have hs:=(((St.nil w4).track hT1 (by simp)).track hb1 (by simpa using hbt)).track hq1 (by simp [n1,n2])
        repeat' (first|refine Nx.h ?_|fail)
        refine dn (k:=?_)
        refine tk 8 hX (k:=?_)
        refine tk 9 hX (k:=?_)
        refine dt 10 hX (k:=?_)
        repeat' (first|(refine st hs (k:=?_);intro w hs)|refine Nx.h ?_|fail)
        refine dn (k:=?_)
        refine en (k:=?_)
        repeat' (first|refine vs (k:=?_)|refine qRg ?_|refine Nx.h ?_|fail)
        have ho3:Only [b] w4 _:=hs.onlyF [b] (by simp [hT1,hq1]) (by simp [D0])
        obtain ⟨fp2,s1,s2,s3,s4⟩:=graftR hbw hlw hrw.nodes h2 hk ho3 (hs.get (At.tail At.head))
        have hln:=cut_len x k r2 r' hr'
        (with_reducible apply xs_call);exact rfl;exact rfl;exact mend_ret tb p0 n0 _ y2 _ c2 _ _ _ (head_keep hT1 ho3 (Nodes.cons hb1 (Nodes.nil _))) s1 s2 (by simp only [List.length_append,List.length_cons];omega)
        rintro v w3 hm
        have hm2:=hm.up (hO1.step s4 h3) (sub_up h3 s3 hO1.size)
        have hs:=St.nil w3
        repeat' (first|refine vs (k:=?_)|refine Nx.h ?_|fail)
        first | refine rt (hq:=?_) | refine rt' (hq:=?_)
        exact hm2
    · rw [cond_true] at hc
      cases l with
      | nil=>cases hc
      | node ll z lr lc =>
      simp only [RB.isNil,cond_false] at hc
      have hl0:=hl1
      obtain ⟨u,avu,pll,plr,fll,flr,rfl,rfl,hu,hau,hll,hlr⟩:=hl1
      have hub:u≠b:=fun e=>by subst e;rw [hf] at hnd;simp at hnd
      have hs:=((St.nil w1).track hb1 (by simp)).track hu (by simpa using hub)
      repeat' (first|refine Nx.h ?_|refine qCt ?_|fail)
      refine xc_cutN (fun _:Unit=>[(0,.pointer (some ⟨tb,0,none⟩)),(1,.pointer (some ⟨b,0,none⟩)),(5,.pointer (some ⟨bq,0,none⟩)),(6,.pointer none),(34,.bool (!lc && !ll.red))]) (fun _ w=>HasQ bq x.1 w0 tb p0 n0 fp (.node (.node ll z lr lc) y r c) (some ⟨b,0,none⟩) w) ?_ ?_
      · repeat' (first|refine vs (k:=?_)|refine qRg ?_|fail)
        have ho2:Only [] w1 _:=hs.onlyF [] (by simp [hb1,hu]) (by simp [D0])
        (with_reducible apply xs_call);exact rfl;exact rfl;exact isRed_ret _ _ _ _ (hl0.keep ho2 (Nodes.nil _) (by simp))
        rintro v w' ⟨rfl,ho⟩;replace hs:=hs.call0 ho
        rw [RB.red_node]
        cases lc
        · repeat' (first|refine vs (k:=?_)|fail)
          have ho2:Only [] w1 _:=hs.onlyF [] (by simp [hb1,hu]) (by simp [D0])
          (with_reducible apply xs_call);exact rfl;exact rfl;exact isRed_ret _ _ _ _ (hll.keep ho2 (Nodes.nil _) (by simp))
          rintro v w' ⟨rfl,ho⟩;replace hs:=hs.call0 ho
          generalize hq2:ll.red=q2
          repeat' (first|refine vs (k:=?_)|refine Nx.h ?_|fail)
          exact cutN_normal () (by (repeat (first | exact agree_nil | (apply agree_cons;exact rfl)))) (hH.only (hs.onlyF [] (by simp [hb1,hu]) (by simp [D0])))
        · repeat' (first|refine vs (k:=?_)|refine ps (k:=?_)|refine Nx.h ?_|fail)
          exact cutN_normal () (by (repeat (first | exact agree_nil | (apply agree_cons;exact rfl)))) (hH.only (hs.onlyF [] (by simp [hb1,hu]) (by simp [D0])))
      clear hH hs hb1 hl0 hu hau hll hlr hr1 hT1
      rintro _ env w hH
      obtain ⟨d,hd⟩:∃ d,RB.downL (.node (.node ll z lr lc) y r c)=some d:=by
        cases hd:RB.downL (.node (.node ll z lr lc) y r c) with
        | none=>rw [hd] at hc;cases hc
        | some d=>exact ⟨d,rfl⟩
      rw [hd] at hc
      have hdl:=downL_list hd
      refine xc_cutN (fun s:Option Addr=>[(0,.pointer (some ⟨tb,0,none⟩)),(1,.pointer s),(5,.pointer (some ⟨bq,0,none⟩)),(6,.pointer none)]) (fun s w=>HasQ bq x.1 w0 tb p0 n0 fp d s w) ?_ ?_
      · unfold RB.downL at hd
        rw [RB.left_node,RB.red_node,RB.left_node] at hd
        generalize hq:(!lc && !ll.red)=q at *
        cases q
        · repeat' (first|refine Nx.h ?_|refine qCf ?_|fail)
          cases hd
          exact cutN_normal _ (by (repeat (first | exact agree_nil | (apply agree_cons;exact rfl)))) hH
        · rw [cond_true] at hd
          cases hbo:RB.both (.node (.node ll z lr lc) y r c)
          · rw [hbo] at hd;cases hd
          rw [hbo,cond_true] at hd
          cases hd
          obtain ⟨⟨⟨fp1,h1,h2,h3,h4⟩,h5⟩,hQ⟩:=hH
          have hs:=St.nil w
          repeat' (first|refine vs (k:=?_)|refine qRg ?_|refine qCt ?_|fail)
          (with_reducible apply xs_call);exact rfl;exact rfl;exact redLeft_ret tb p0 n0 _ _ _ _ h5 h1 h2 hlen hbo
          rintro v w' hv
          obtain ⟨p',rfl,hH⟩:=HasQ.next h1 h3 h4 h5 hQ hv
          have hs:=St.nil w'
          repeat' (first|refine vs (k:=?_)|refine Nx.h ?_|fail)
          exact cutN_normal p' (by (repeat (first | exact agree_nil | (apply agree_cons;exact rfl)))) hH
      clear hH
      rintro p1 env w hH
      cases d with
      | nil=>cases hc
      | node l1 x1 r1 c1 =>
      obtain ⟨l',hl',rfl⟩:=Option.map_eq_some_iff.1 hc
      obtain ⟨⟨⟨fp1,⟨b,av,pl,pr,fl,fr,rfl,rfl,hb,hav,hl,hr⟩,h2,h3,h4⟩,h5⟩,hQ⟩:=hH
      have hbt:=head_ne h5 hb
      have n1:=blocks_ne hQ hb (by decide)
      have n2:=blocks_ne hQ h5 (by decide)
      have hs:=(((St.nil w).track h5 (by simp)).track hb (by simpa using hbt)).track hQ (by simp [n1,n2])
      rw [← hdl] at hlen
      simp only [RB.list,List.length_append,List.length_cons] at hlen
      repeat' (first|refine Nx.h ?_|fail)
      refine dr [10] hs (k:=?_);intro hX wD hs
      refine tk 0 hX (k:=?_)
      refine tk 1 hX (k:=?_)
      refine tk 2 hX (k:=?_)
      refine tk 3 hX (k:=?_)
      refine tk 4 hX (k:=?_)
      refine tk 5 hX (k:=?_)
      refine tk 6 hX (k:=?_)
      refine dt 7 hX (k:=?_)
      have ho1:Only [] w _:=hs.onlyF [] (by simp [h5,hb,hQ]) (by simp [D0])
      have hQw:=hs.get At.head
      have hlw:=hl.keep ho1 (Nodes.nil _) (by simp)
      have hrw:=hr.keep ho1 (Nodes.nil _) (by simp)
      have hbw:=hs.get (At.tail At.head)
      have hTw:=head_keep h5 ho1 (Nodes.nil _)
      (with_reducible apply xs_call);exact rfl;exact rfl;exact cut_ret tb p0 n0 x k l1 l' pl fl _ hTw hlw (by simp only [List.nodup_cons,List.nodup_append] at h2;exact h2.2.1) (by omega) hl'
      rintro v w' hk
      obtain ⟨p',hv⟩:∃ p',v = .pointer p':=by obtain ⟨p',_,hv,_⟩:=hk;exact ⟨p',hv⟩
      subst hv
      obtain ⟨_,_,_,_,_,_,k4⟩:=id hk
      have hT1:=head_keep hTw k4 hlw.nodes
      have hb1:=k4.block hbw (fun h=>by simp [h] at h2)
      have hq1:=k4.block hQw (nodes_q hlw.nodes hQw)
      clear hs
      have hs:=(((St.nil w').track hT1 (by simp)).track hb1 (by simpa using hbt)).track hq1 (by simp [n1,n2])
      repeat' (first|refine Nx.h ?_|fail)
      refine dn (k:=?_)
      refine tk 8 hX (k:=?_)
      refine tk 9 hX (k:=?_)
      refine dt 10 hX (k:=?_)
      repeat' (first|(refine st hs (k:=?_);intro w hs)|refine Nx.h ?_|fail)
      refine dn (k:=?_)
      refine en (k:=?_)
      repeat' (first|refine vs (k:=?_)|refine qRg ?_|refine Nx.h ?_|fail)
      have ho3:Only [b] w' _:=hs.onlyF [b] (by simp [hT1,hq1]) (by simp [D0])
      obtain ⟨fp2,s1,s2,s3,s4⟩:=graftL hbw hlw.nodes hrw h2 hk ho3 (hs.get (At.tail At.head))
      have hln:=cut_len x k l1 l' hl'
      (with_reducible apply xs_call);exact rfl;exact rfl;exact mend_ret tb p0 n0 _ x1 _ c1 _ _ _ (head_keep hT1 ho3 (Nodes.cons hb1 (Nodes.nil _))) s1 s2 (by simp only [List.length_append,List.length_cons];omega)
      rintro v w3 hm
      have hO:=(h4.step ho1 (by simp)).step s4 h3
      have hm2:=hm.up hO (sub_up h3 s3 (h4.step ho1 (by simp)).size)
      have hs:=St.nil w3
      repeat' (first|refine vs (k:=?_)|refine Nx.h ?_|fail)
      first | refine rt (hq:=?_) | refine rt' (hq:=?_)
      exact hm2
end Go.Proofs.YtalffooghioekaaGreatDoorX.IB

namespace Go.Proofs.YtalffooghioekaaGreatDoorX.IB
open Go Go.RowKit
attribute [local irreducible] XS XC XA thenE blockE retE loopE loopS cutB cutN doneE SE
abbrev boolO (b:Bool):Obj := .cells #[.bool b] 4 (0,0)
abbrev ptrO (tb:Nat):Obj := .cells #[.pointer (some ⟨tb,0,none⟩)] 127 (0,0)
abbrev itO (a:It):Obj := .cells #[.int .u64 a.p.t,.int .u32 a.p.r,.int .u32 a.p.w,.int .i64 a.id,.int .u64 a.d.t,.int .u32 a.d.r,.int .u32 a.d.w] 64 (0,0)
def addO (acc:Option IT) (m:IT):Option IT:=some (match acc with | none=>m | some a=>snr a m)
def valO (acc:Option IT):It:=match acc with | none => .zero | some a=>a.1
def allO (acc:Option IT) (t:RB IT):Option IT:=match all? t with | none=>acc | some a=>addO acc a
def foldT (q:IT→Bool):RB IT→Option IT→Option IT
  | .nil,acc=>acc
  | .node l x r _,acc=>bif q x then foldT q r (addO (allO acc l) x) else foldT q l acc
set_option maxHeartbeats 1000000 in
theorem add6_ret (b7 b2 b6 tb:Nat) (p:Option Addr) (n0:Int) (acc:Option IT) (m:IT) (w0:World) (h7:w0.heap[b7]?=some (boolO acc.isSome)) (h2:w0.heap[b2]?=some (ptrO tb)) (h6:w0.heap[b6]?=some (itO (valO acc))) (hT:w0.heap[tb]?=some (treeO p n0)) :
    Ret Tryz.prog 273 #[iv m.1,.pointer (some ⟨b7,0,none⟩),.pointer (some ⟨b2,0,none⟩),.pointer (some ⟨b6,0,none⟩)] w0 fun v w'=>w'.heap[b7]?=some (boolO true)∧w'.heap[b6]?=some (itO (valO (addO acc m)))∧Only [b7,b6] w0 w':=by
  have n1:b2≠tb:=blocks_ne h2 hT (by decide)
  have n2:b6≠tb:=blocks_ne h6 hT (by decide)
  have n3:b7≠tb:=blocks_ne h7 hT (by decide)
  have n4:b6≠b2:=blocks_ne h6 h2 (by decide)
  have n5:b7≠b2:=blocks_ne h7 h2 (by decide)
  have n6:b7≠b6:=blocks_ne h7 h6 (by decide)
  have hs:=((((St.nil w0).track hT (by simp)).track h2 (by simpa using n1)).track h6 (by simp [n2,n4])).track h7 (by simp [n3,n5,n6])
  cases acc with
  | none =>
    refine ret_of_xc Tryz.func273 (by kernel_rfl) rfl Tryz.ntmps273 rfl rfl rfl ?_;refine xc_seq ?_;refine xc_region ?_ ?_;exact rfl;refine bx hs (k:=?_);intro bq wq hzq hs;repeat' (first|refine vs (k:=?_)|(refine st hs (k:=?_);intro w hs)|(refine stA hs (k:=?_);intro w hs)|refine qRg ?_|refine Nx.h ?_|refine qCf ?_|fail)
    first | refine rt' (vs:=[]) (hr:=resOk_nil) (hq:=?_) | refine rt (vs:=[]) (hr:=resOk_nil) (hq:=?_)
    have ho:Only [b7,b6] w0 _:=hs.onlyF [b7,b6] (by simp [h2,hT]) (by simp [D0])
    exact ⟨hs.get (At.tail At.head),hs.get (At.tail (At.tail At.head)),ho⟩
  | some a =>
    refine ret_of_xc Tryz.func273 (by kernel_rfl) rfl Tryz.ntmps273 rfl rfl rfl ?_;refine xc_seq ?_;refine xc_region ?_ ?_;exact rfl;refine bx hs (k:=?_);intro bq wq hzq hs;repeat' (first|refine vs (k:=?_)|refine qRg ?_|refine Nx.h ?_|refine qCt ?_|fail)
    refine dr [7] hs (k:=?_);intro hX w hs
    refine tk 0 hX (k:=?_)
    refine tk 1 hX (k:=?_)
    refine tk 2 hX (k:=?_)
    refine tk 3 hX (k:=?_)
    refine tk 4 hX (k:=?_)
    refine tk 5 hX (k:=?_)
    refine dt 6 hX (k:=?_)
    (with_reducible apply xs_call);exact rfl;exact rfl;exact sooner_ret a m _
    rintro v w' ⟨rfl,ho⟩;replace hs:=hs.call0 ho;repeat' (first|refine Nx.h ?_|fail)
    refine dn (k:=?_)
    refine dt 7 hX (k:=?_)
    repeat' (first|(refine stA hs (k:=?_);intro w hs)|refine Nx.h ?_|fail)
    refine dn (k:=?_)
    refine en (k:=?_)
    repeat' (first|refine vs (k:=?_)|(refine st hs (k:=?_);intro w hs)|(refine stA hs (k:=?_);intro w hs)|refine qRg ?_|refine Nx.h ?_|fail)
    first | refine rt' (vs:=[]) (hr:=resOk_nil) (hq:=?_) | refine rt (vs:=[]) (hr:=resOk_nil) (hq:=?_)
    have ho:Only [b7,b6] w0 _:=hs.onlyF [b7,b6] (by simp [h2,hT]) (by simp [D0])
    exact ⟨hs.get (At.tail At.head),hs.get (At.tail (At.tail At.head)),ho⟩
structure FoldAt (w0:World) (tb b2 b4 b6 b7:Nat) (acc:Option IT) (w:World):Prop where
  o:Only [] w0 w
  h2:w.heap[b2]?=some (ptrO tb)
  h7:w.heap[b7]?=some (boolO acc.isSome)
  h6:w.heap[b6]?=some (itO (valO acc))
  h4:w.heap[b4]?=some (itO .zero)
theorem FoldAt.only {w0 w w':World} {tb b2 b4 b6 b7:Nat} {acc:Option IT} (h:FoldAt w0 tb b2 b4 b6 b7 acc w) (ho:Only [] w w'):FoldAt w0 tb b2 b4 b6 b7 acc w':=by
  obtain ⟨o,h2,h7,h6,h4⟩:=h
  exact ⟨o.step ho (by simp),ho.block h2 (by simp),ho.block h7 (by simp),ho.block h6 (by simp),ho.block h4 (by simp)⟩
theorem FoldAt.add {w0 w w':World} {tb b2 b4 b6 b7:Nat} {acc:Option IT} {m:IT} (h:FoldAt w0 tb b2 b4 b6 b7 acc w) (g6:w0.heap.size≤b6) (g7:w0.heap.size≤b7) (n46:b4≠b6)
    (k7:w'.heap[b7]?=some (boolO true)) (k6:w'.heap[b6]?=some (itO (valO (addO acc m)))) (ho:Only [b7,b6] w w'):FoldAt w0 tb b2 b4 b6 b7 (addO acc m) w':=by
  obtain ⟨o,h2,h7,h6,h4⟩:=h
  refine ⟨o.step ho (fun k hk=>?_),ho.block h2 (fun hm=>?_),k7,k6,ho.block h4 (fun hm=>?_)⟩
  · simp only [List.mem_cons,List.not_mem_nil,or_false] at hk
    rcases hk with rfl | rfl
    · exact .inr g7
    · exact .inr g6
  · simp only [List.mem_cons,List.not_mem_nil,or_false] at hm
    rcases hm with rfl | rfl
    · exact blocks_ne h2 h7 (by decide) rfl
    · exact blocks_ne h2 h6 (by decide) rfl
  · simp only [List.mem_cons,List.not_mem_nil,or_false] at hm
    rcases hm with rfl | rfl
    · exact blocks_ne h4 h7 (by decide) rfl
    · exact n46 rfl
theorem no_self {w:World} {x:IT} {c:Bool} {b:Nat} {av:It} {pr:Option Addr} {fl:List Nat} {a1:RB IT} (hlb:w.heap[b]?=some (nodeO x av (some ⟨b,0,none⟩) pr c)) (hll:TreeAt w a1 (some ⟨b,0,none⟩) fl):False:=by
  revert fl
  induction a1 with
  | nil=>rintro fl ⟨h,_⟩;cases h
  | node a y d e ih _ =>
    rintro fl ⟨b',av',pl',pr',fl',fr',h1,h2,h3,h4,h5,h6⟩
    cases h1
    rw [hlb] at h3
    have hp:(some ⟨b,0,none⟩:Option Addr)=pl':=by
      injection h3 with h3;injection h3 with h3;injection h3 with h3
      simp only [List.cons.injEq,Value.pointer.injEq] at h3
      exact h3.2.2.2.2.2.2.2.2.2.2.2.2.2.2.1
    rw [← hp] at h5
    exact ih h5
set_option maxHeartbeats 4000000 in
theorem fold_ret (tb:Nat) (t:RB IT) (F:List Nat) (w0:World) (h:Obj6 w0 tb t F) (fid:Nat) (caps:List Value) (q:IT→Bool)
    (hq:∀ (y:IT) (w:World),y∈t.list→Only [] w0 w→Ret Tryz.prog fid (iv y.1 :: caps).toArray w fun v w'=>v = .bool (q y)∧Only [] w w') :
    Ret Tryz.prog 263 #[.pointer (some ⟨tb,0,none⟩),.func (.func fid) #[] caps.toArray] w0 fun v w'=>v = .tuple #[iv (valO (foldT q t none)),.bool (foldT q t none).isSome]∧Only [] w0 w':=by
  obtain ⟨p,fp,rfl,hT,ht,hnd⟩:=h
  have hs:=(St.nil w0).track hT (by simp)
  refine ret_of_xc Tryz.func263 (by kernel_rfl) rfl Tryz.ntmps263 rfl rfl rfl ?_
  repeat' (first|refine Nx.h ?_|fail)
  refine xc_region ?_ ?_;exact rfl
  refine bx hs (k:=?_);intro b2 w hz hs
  refine al hs (k:=?_);intro b4 w hz hs
  repeat' (first|refine vs (k:=?_)|refine Nx.h ?_|fail)
  refine xc_region ?_ ?_;exact rfl
  refine al hs (k:=?_);intro b6 w hz hs
  repeat' (first|refine Nx.h ?_|fail)
  refine xc_region ?_ ?_;exact rfl
  refine al hs (k:=?_);intro b7 w hz hs
  repeat' (first|refine vs (k:=?_)|(refine st hs (k:=?_);intro w hs)|refine qRg ?_|refine Nx.h ?_|refine qCf ?_|fail)
  have g2:=hs.new (b2,true) (by simp) rfl
  have g4:=hs.new (b4,true) (by simp) rfl
  have g6:=hs.new (b6,true) (by simp) rfl
  have g7:=hs.new (b7,true) (by simp) rfl
  have n46:b4≠b6:=by have:=hs.nd;simp only [List.map_cons,List.nodup_cons,List.mem_cons,not_or] at this;exact Ne.symm this.2.1.1
  have hF0:FoldAt w0 tb b2 b4 b6 b7 none _:=⟨hs.onlyF [] (by simp [hT]) (by simp [D0]),hs.get (At.tail (At.tail (At.tail At.head))),hs.get At.head,hs.get (At.tail At.head),hs.get (At.tail (At.tail At.head))⟩
  refine xc_cutB (fun _:Unit=>[(4,.pointer (some ⟨b4,0,none⟩)),(6,.pointer (some ⟨b6,0,none⟩)),(7,.pointer (some ⟨b7,0,none⟩))]) (fun _ w=>FoldAt w0 tb b2 b4 b6 b7 (foldT q t none) w) ?_ ?_
  · refine xc_loopS (fun (s:RB IT × Option Addr × Option IT)=>[(1,.func (.func fid) #[] caps.toArray),(2,.pointer (some ⟨b2,0,none⟩)),(4,.pointer (some ⟨b4,0,none⟩)),(6,.pointer (some ⟨b6,0,none⟩)),(7,.pointer (some ⟨b7,0,none⟩)),(8,.func (.func 273) #[] #[.pointer (some ⟨b7,0,none⟩),.pointer (some ⟨b2,0,none⟩),.pointer (some ⟨b6,0,none⟩)]),(9,.pointer s.2.1)])
      (fun s w=>FoldAt w0 tb b2 b4 b6 b7 s.2.2 w∧foldT q t none=foldT q s.1 s.2.2∧(∀ y∈s.1.list,y∈t.list)∧∃ fps,TreeAt w0 s.1 s.2.1 fps)
      (fun s=>s.1.list.length) (t,p,none) (by (repeat (first | exact agree_nil | (apply agree_cons;exact rfl)))) ⟨hF0,rfl,fun _ h=>h,fp,ht⟩ fun s env w2 ⟨k1,k2,k3,fps,k4⟩=>?_
    clear hs hF0
    obtain ⟨s,ps,acc⟩:=s
    dsimp only at k1 k2 k3 k4 ⊢
    cases s with
    | nil =>
      obtain ⟨rfl,rfl⟩:=k4
      have hs:=St.nil w2
      repeat' (first|refine vs (k:=?_)|refine qRg ?_|refine Nx.h ?_|refine qCf ?_|fail)
      exact cutB_exit () (by (repeat (first | exact agree_nil | (apply agree_cons;exact rfl)))) (by rw [k2];exact k1.only (hs.only0 rfl))
    | node l y r c =>
      obtain ⟨b,av,pl,pr,fl,fr,rfl,rfl,hb,hav,hl,hr⟩:=k4
      have hbw:=k1.o.block hb (by simp)
      have hTw:=k1.o.block hT (by simp)
      have hbt:=head_ne hT hb
      have d1:b≠b2:=blocks_ne hbw k1.h2 (by decide)
      have hs:=((St.nil w2).track k1.h2 (by simp)).track hbw (by simpa using d1)
      have k3l:∀ z∈l.list,z∈t.list:=fun z hz=>k3 z (by simp [RB.list,hz])
      have k3r:∀ z∈r.list,z∈t.list:=fun z hz=>k3 z (by simp [RB.list,hz])
      repeat' (first|refine vs (k:=?_)|refine qRg ?_|refine Nx.h ?_|refine qCt ?_|fail)
      have ho:=hs.onlyF [] (by simp [hbw,k1.h2]) (by simp [D0])
      (with_reducible apply xs_call);exact rfl;exact rfl;exact hq y _ (k3 y (by simp [RB.list])) (k1.o.step ho (by simp))
      rintro v w' ⟨rfl,ho⟩;replace hs:=hs.call0 ho
      cases hqy:q y
      · have e1:foldT q (.node l y r c) acc=foldT q l acc:=by simp [foldT,hqy]
        rw [e1] at k2
        repeat' (first|refine vs (k:=?_)|refine qRg ?_|refine Nx.h ?_|refine qCt ?_|fail)
        exact loopS_next (l,pl,acc) (by simp only [RB.list,List.length_append,List.length_cons];omega) (by (repeat (first | exact agree_nil | (apply agree_cons;exact rfl)))) ⟨k1.only (hs.onlyF [] (by simp [hbw,k1.h2]) (by simp [D0])),k2,k3l,fl,hl⟩
      · have e1:foldT q (.node l y r c) acc=foldT q r (addO (allO acc l) y):=by simp [foldT,hqy]
        rw [e1] at k2
        have hF1:=k1.only (hs.onlyF [] (by simp [hbw,k1.h2]) (by simp [D0]))
        clear k1 hbw hTw hs ho
        have hN67:∀ (w:World) (acc:Option IT),FoldAt w0 tb b2 b4 b6 b7 acc w→b∉[b7,b6]∧tb∉[b7,b6]:=fun w acc k=>by
          have hbw:=k.o.block hb (by simp)
          have hTw:=k.o.block hT (by simp)
          obtain ⟨_,_,k7,k6,_⟩:=k
          have e1:=blocks_ne hbw k7 (by decide)
          have e2:=blocks_ne hbw k6 (by decide)
          have e3:=blocks_ne hTw k7 (by decide)
          have e4:=blocks_ne hTw k6 (by decide)
          simp [e1,e2,e3,e4]
        have hs:=St.nil w'
        repeat' (first|refine vs (k:=?_)|refine Nx.h ?_|refine qCf ?_|fail)
        refine xc_cutN (fun _:Unit=>[(1,.func (.func fid) #[] caps.toArray),(2,.pointer (some ⟨b2,0,none⟩)),(4,.pointer (some ⟨b4,0,none⟩)),(6,.pointer (some ⟨b6,0,none⟩)),(7,.pointer (some ⟨b7,0,none⟩)),(8,.func (.func 273) #[] #[.pointer (some ⟨b7,0,none⟩),.pointer (some ⟨b2,0,none⟩),.pointer (some ⟨b6,0,none⟩)]),(9,.pointer (some ⟨b,0,none⟩)),(35,.bool (!RB.isNil l))]) (fun _ w=>FoldAt w0 tb b2 b4 b6 b7 acc w) ?_ ?_
        · have hbw:=hF1.o.block hb (by simp)
          clear hs
          have hs:=(St.nil w').track hbw (by simp)
          cases l with
          | nil =>
            obtain ⟨rfl,rfl⟩:=hl
            repeat' (first|refine vs (k:=?_)|refine qRg ?_|refine Nx.h ?_|fail)
            exact cutN_normal () (by (repeat (first | exact agree_nil | (apply agree_cons;exact rfl)))) (hF1.only (hs.onlyF [] (by simp [hbw]) (by simp [D0])))
          | node a1 a2 a3 a4 =>
            obtain ⟨_,_,_,_,_,_,rfl,_⟩:=hl
            repeat' (first|refine vs (k:=?_)|refine qRg ?_|refine Nx.h ?_|fail)
            exact cutN_normal () (by (repeat (first | exact agree_nil | (apply agree_cons;exact rfl)))) (hF1.only (hs.onlyF [] (by simp [hbw]) (by simp [D0])))
        clear hF1 hs
        rintro _ env w3 hF1
        refine xc_cutN (fun _:Unit=>[(1,.func (.func fid) #[] caps.toArray),(2,.pointer (some ⟨b2,0,none⟩)),(4,.pointer (some ⟨b4,0,none⟩)),(6,.pointer (some ⟨b6,0,none⟩)),(7,.pointer (some ⟨b7,0,none⟩)),(8,.func (.func 273) #[] #[.pointer (some ⟨b7,0,none⟩),.pointer (some ⟨b2,0,none⟩),.pointer (some ⟨b6,0,none⟩)]),(9,.pointer (some ⟨b,0,none⟩))]) (fun _ w=>FoldAt w0 tb b2 b4 b6 b7 (allO acc l) w) ?_ ?_
        · have hbw:=hF1.o.block hb (by simp)
          cases l with
          | nil =>
            have hs:=St.nil w3
            repeat' (first|refine Nx.h ?_|refine qCf ?_|fail)
            exact cutN_normal () (by (repeat (first | exact agree_nil | (apply agree_cons;exact rfl)))) hF1
          | node a1 a2 a3 a4 =>
            obtain ⟨lb,lav,lpl,lpr,lfl,lfr,rfl,rfl,hlb,hlav,hll,hlr⟩:=hl
            have hlav':lav=(allN a1 a2 a3).1:=hlav
            subst hlav'
            have hlbw:=hF1.o.block hlb (by simp)
            have hlbb:lb≠b:=fun e=>by
              subst e
              rw [hlb] at hb
              have hp:(some ⟨lb,0,none⟩:Option Addr)=lpl:=by
                injection hb with h3;injection h3 with h3;injection h3 with h3
                simp only [List.cons.injEq,Value.pointer.injEq] at h3
                exact h3.2.2.2.2.2.2.2.2.2.2.2.2.2.2.1.symm
              rw [← hp] at hlb hll
              exact no_self hlb hll
            have hs:=((St.nil w3).track hbw (by simp)).track hlbw (by simpa using hlbb)
            repeat' (first|refine vs (k:=?_)|refine qRg ?_|refine qCt ?_|fail)
            have ho:=hs.onlyF [] (by simp [hbw,hlbw]) (by simp [D0])
            have hF2:=hF1.only ho
            obtain ⟨o,q2,q7,q6,_⟩:=id hF2
            (with_reducible apply xs_call);exact rfl;exact rfl;exact add6_ret b7 b2 b6 tb p _ acc (allN a1 a2 a3) _ q7 q2 q6 (o.block hT (by simp))
            rintro v w4 ⟨m7,m6,mo⟩
            have hs:=St.nil w4
            repeat' (first|refine Nx.h ?_|fail)
            exact cutN_normal () (by (repeat (first | exact agree_nil | (apply agree_cons;exact rfl)))) (hF2.add g6 g7 n46 m7 m6 mo)
        clear hF1
        rintro _ env w4 hF1
        have hbw:=hF1.o.block hb (by simp)
        have hTw:=hF1.o.block hT (by simp)
        have d2:b2≠tb:=blocks_ne hF1.h2 hTw (by decide)
        have hs:=(((St.nil w4).track hTw (by simp)).track hF1.h2 (by simpa using d2)).track hbw (by simp [d1,hbt])
        repeat' (first|refine Nx.h ?_|fail)
        refine dr [] hs (k:=?_);intro hX w hs
        refine tk 0 hX (k:=?_)
        refine tk 1 hX (k:=?_)
        refine tk 2 hX (k:=?_)
        refine tk 3 hX (k:=?_)
        refine tk 4 hX (k:=?_)
        refine tk 5 hX (k:=?_)
        refine tk 6 hX (k:=?_)
        refine tk 7 hX (k:=?_)
        refine tk 8 hX (k:=?_)
        refine dt 9 hX (k:=?_)
        (with_reducible apply xs_call);exact rfl;exact rfl;exact itself_ret y.1 _
        rintro v w5 ⟨rfl,ho⟩;replace hs:=hs.call0 ho
        repeat' (first|refine Nx.h ?_|fail)
        refine dn (k:=?_)
        refine dt 10 hX (k:=?_)
        have hF2:=hF1.only (hs.onlyF [] (by simp [hbw,hTw,hF1.h2]) (by simp [D0]))
        obtain ⟨o,q2,q7,q6,_⟩:=id hF2
        (with_reducible apply xs_call);exact rfl;exact rfl;exact add6_ret b7 b2 b6 tb p _ (allO acc l) y _ q7 q2 q6 (o.block hT (by simp))
        rintro v6 w6 ⟨m7,m6,mo⟩
        have hn:=hN67 _ _ hF2
        have hF3:=hF2.add g6 g7 n46 m7 m6 mo
        have hb3:=hF3.o.block hb (by simp)
        have hT3:=hF3.o.block hT (by simp)
        clear hs
        have hs:=(((St.nil w6).track hT3 (by simp)).track hF3.h2 (by simpa using d2)).track hb3 (by simp [d1,hbt])
        repeat' (first|refine Nx.h ?_|fail)
        refine dn (k:=?_)
        refine en (k:=?_)
        repeat' (first|refine vs (k:=?_)|refine qRg ?_|refine Nx.h ?_|fail)
        exact loopS_next (r,pr,addO (allO acc l) y) (by simp only [RB.list,List.length_append,List.length_cons];omega) (by (repeat (first | exact agree_nil | (apply agree_cons;exact rfl)))) ⟨hF3.only (hs.onlyF [] (by simp [hb3,hT3,hF3.h2]) (by simp [D0])),k2,k3r,fr,hr⟩
  · rintro _ env w ⟨o,k2,k7,k6,k4⟩
    clear hs hF0
    have d1:b7≠b6:=blocks_ne k7 k6 (by decide)
    have d2:b7≠b4:=blocks_ne k7 k4 (by decide)
    have hs:=(((St.nil w).track k4 (by simp)).track k6 (by simpa using Ne.symm n46)).track k7 (by simp [d1,d2])
    repeat' (first|refine Nx.h ?_|fail)
    have hR:∀ {w'':World} {o:Obj},St w D0 [(b7,boolO (foldT q t none).isSome,false),(b6,itO (valO (foldT q t none)),false),(b4,o,false)] w''→True=True→Hold [(b7,boolO (foldT q t none).isSome,false),(b6,itO (valO (foldT q t none)),false)] w'':=fun hs _ e he=>hs.at_ e (by
      simp only [List.mem_cons,List.not_mem_nil,or_false] at he ⊢
      rcases he with he | he
      · exact .inl he
      · exact .inr (.inl he))
    refine drH [] [(b7,boolO (foldT q t none).isSome,false),(b6,itO (valO (foldT q t none)),false)] hs (k:=?_);intro hX w hs
    refine tk 0 hX (k:=?_)
    refine tk 1 hX (k:=?_)
    refine dt 2 hX (k:=?_)
    repeat' (first|(refine stA hs (k:=?_);intro w hs)|refine Nx.h ?_|fail)
    refine dn (k:=?_)
    refine tk 3 hX (k:=?_)
    refine en (k:=?_)
    repeat' (first|refine Nx.h ?_|fail)
    first | refine rt (hq:=?_) | refine rt' (hq:=?_)
    have ho:=hs.onlyF [b4] (by simp [k6,k7]) (by simp [D0])
    exact ⟨rfl,o.step ho (by simp [g4])⟩
end Go.Proofs.YtalffooghioekaaGreatDoorX.IB

namespace Go.Proofs.YtalffooghioekaaGreatDoorX
open Go Go.RowKit
attribute [local irreducible] XS XC XA thenE blockE retE loopE loopS cutB cutN doneE SE
theorem divV_7:divV (-7) 2 = .tuple #[wv (-4),.int .u64 1,.bool true]:=by kernel_rfl
theorem tell_64:tellV (9223372036854775808*2) = .tuple #[wv 18446744073709551616,.bool true]:=by kernel_rfl
set_option maxHeartbeats 400000 in
theorem awake1_ret (w0:World):Ret Tryz.prog 341 #[] w0 fun v w'=>v = .bool true∧Only [] w0 w':=by
  have hs:=St.nil w0
  refine ret_of_xc Tryz.func341 (by kernel_rfl) rfl Tryz.ntmps341 rfl rfl rfl ?_
  repeat' (first|refine vs (k:=?_)|refine qRg ?_|refine Nx.h ?_|fail)
  (with_reducible apply xs_call);exact rfl;exact rfl;exact of_ret (-7) (by decide) (by decide) _
  rintro v w' ⟨rfl,ho⟩;replace hs:=hs.call0 ho
  skip
  (with_reducible apply xs_call);exact rfl;exact rfl;exact div_ret (-7) 2 (by decide) (by decide) (by decide) _
  rintro v w' ⟨rfl,ho⟩;replace hs:=hs.call0 ho
  rw [divV_7]
  repeat' (first|refine vs (k:=?_)|(refine stA hs (k:=?_);intro w hs)|(refine al hs (k:=?_);intro b w hz hs)|refine qRg ?_|refine Nx.h ?_|fail)
  (with_reducible apply xs_call);exact rfl;exact rfl;exact ofU_ret 9223372036854775808 (by decide) (by decide) _
  rintro v w' ⟨rfl,ho⟩;replace hs:=hs.call0 ho
  skip
  (with_reducible apply xs_call);exact rfl;exact rfl;exact mul_ret 9223372036854775808 2 (by decide) (by decide) (by decide) _
  rintro v w' ⟨rfl,ho⟩;replace hs:=hs.call0 ho
  rw [tell_64]
  repeat' (first|refine vs (k:=?_)|(refine stA hs (k:=?_);intro w hs)|(refine al hs (k:=?_);intro b w hz hs)|refine Nx.h ?_|fail)
  refine dr [] hs (k:=?_);intro hX w hs
  refine tk 0 hX (k:=?_)
  refine tk 1 hX (k:=?_)
  refine tk 2 hX (k:=?_)
  refine tk 3 hX (k:=?_)
  refine tk 4 hX (k:=?_)
  refine tk 5 hX (k:=?_)
  refine dt 6 hX (k:=?_)
  (with_reducible apply xs_call);exact rfl;exact rfl;exact of_ret (-4) (by decide) (by decide) _
  rintro v w' ⟨rfl,ho⟩;replace hs:=hs.call0 ho
  repeat' (first|refine Nx.h ?_|fail)
  refine dn (k:=?_)
  refine tk 7 hX (k:=?_)
  refine tk 8 hX (k:=?_)
  refine tk 9 hX (k:=?_)
  refine tk 10 hX (k:=?_)
  refine tk 11 hX (k:=?_)
  refine tk 12 hX (k:=?_)
  refine tk 13 hX (k:=?_)
  refine tk 14 hX (k:=?_)
  refine tk 15 hX (k:=?_)
  refine tk 16 hX (k:=?_)
  refine tk 17 hX (k:=?_)
  refine tk 18 hX (k:=?_)
  refine en (k:=?_)
  repeat' (first|refine Nx.h ?_|fail)
  first | refine rt (hq:=?_) | refine rt' (hq:=?_)
  exact ⟨rfl,hs.only0 rfl⟩
theorem tellV_cases (s:Int):(InW s∧tellV s = .tuple #[wv s,.bool true])∨(¬ InW s∧tellV s = .tuple #[wv 0,.bool false]):=by
  unfold tellV
  by_cases h:InW s
  · rw [if_pos h];exact .inl ⟨h,rfl⟩
  · rw [if_neg h];exact .inr ⟨h,rfl⟩
theorem cmp_pos {x y:Int}:0 < cmpI x y↔y < x:=by unfold cmpI;repeat' split <;> omega
theorem cmp_neg {x y:Int}:cmpI x y < 0↔x < y:=by unfold cmpI;repeat' split <;> omega
end Go.Proofs.YtalffooghioekaaGreatDoorX

namespace Go.Proofs.YtalffooghioekaaGreatDoorX
open Go Go.RowKit
attribute [local irreducible] XS XC XA thenE blockE retE loopE loopS cutB cutN doneE SE
theorem step_ret (a n d r:Int) (ha:U64 a) (hn:U64 n) (hd:U64 d) (hr:0≤r) (hrd:r < d) (hp:a*n+r < 18446744073709551616) (hp0:0≤a*n) (w0:World) :
    Ret Tryz.prog 338 #[.int .u64 a,.int .u64 n,.int .u64 d,.int .u64 r] w0 fun v w'=>v = .tuple #[.int .u64 ((a*n+r) / d),.int .u64 ((a*n+r) % d),.bool true]∧Only [] w0 w':=by
  have hs:=St.nil w0
  obtain ⟨ha0,ha1⟩:=ha
  obtain ⟨hn0,hn1⟩:=hn
  obtain ⟨hd0,hd1⟩:=hd
  have e1:a*n / 18446744073709551616=0:=by omega
  have e2:a*n % 18446744073709551616=a*n:=by omega
  have e3:(a*n+r+0) / 18446744073709551616=0:=by omega
  have e4:(a*n+r+0) % 18446744073709551616=a*n+r:=by omega
  refine ret_of_xc Tryz.func338 (by kernel_rfl) rfl Tryz.ntmps338 rfl rfl rfl ?_
  repeat' (first|refine vs (k:=?_)|refine qRg ?_|refine Nx.h ?_|(refine xc_if rfl (fun hc=>?_) (fun hc=>?_))|fail)
  · omega
  · (with_reducible apply xs_call);exact rfl;exact rfl;exact mul64_ret a n ha0 ha1 hn0 hn1 _
    rw [e1,e2]
    rintro v w' ⟨rfl,ho⟩;replace hs:=hs.call0 ho;repeat' (first|refine vs (k:=?_)|refine qRg ?_|refine Nx.h ?_|fail)
    (with_reducible apply xs_call);exact rfl;exact rfl;exact add64_ret (a*n) r 0 hp0 hr (by decide) (by decide) _
    rw [e3,e4]
    rintro v w' ⟨rfl,rfl⟩
    repeat' (first|refine vs (k:=?_)|refine qRg ?_|refine Nx.h ?_|(refine xc_if rfl (fun hc=>?_) (fun hc=>?_))|fail)
    · simp only [wrap_u64] at hc
      omega
    · (with_reducible apply xs_call);exact rfl;exact rfl;exact div64_ret 0 (a*n+r) d (by decide) (by omega) hd1 (by omega) hp _
      rintro v w' ⟨rfl,ho⟩;replace hs:=hs.call0 ho;repeat' (first|refine vs (k:=?_)|refine qRg ?_|refine Nx.h ?_|fail)
      first | refine rt (hq:=?_) | refine rt' (hq:=?_)
      refine ⟨?_,hs.only0 rfl⟩
      rw [Int.zero_mul,Int.zero_add]
      rfl
set_option maxHeartbeats 1000000 in
theorem steps_ret (sl:Value) (w0:World) (hL:LsAt w0 22 1 sl [[.int .u64 1],[.int .u64 1],[.int .u64 1]]) :
    Ret Tryz.prog 339 #[.int .u64 1,.int .u64 3,.int .u64 0,sl] w0 fun v w'=>v = .tuple #[.int .u64 1,.int .u64 0,.bool true]∧Only [] w0 w':=by
  obtain ⟨ad,cap,rfl,hD⟩:=hL
  obtain ⟨b,off,cs,fz,rfl,_,hb,hcs⟩:=hD (by simp)
  have hs:=St.nil w0
  refine ret_of_xc Tryz.func339 (by kernel_rfl) rfl Tryz.ntmps339 rfl rfl rfl ?_
  repeat' (first|refine vs (k:=?_)|refine qRg ?_|refine Nx.h ?_|refine qCf ?_|fail)
  refine xc_cutB (fun (_:Unit)=>[(8,.int .u64 1),(2,.int .u64 0)]) (fun _ w=>St w0 D0 [] w) ?_ ?_
  · refine xc_loopS (fun (i:Nat)=>[(0,.int .u64 1),(1,.int .u64 3),(2,.int .u64 ((i % 3:Nat):Int)),(8,.int .u64 ((i / 3:Nat):Int)),(21,.slice (some ⟨b,off,none⟩) 3 cap),(22,.int .i64 (3:Nat)),(23,.int .i64 (i:Nat))])
      (fun i w=>i≤3∧St w0 D0 [] w) (fun i=>3 - i) 0 (by (repeat (first | exact agree_nil | (apply agree_cons;exact rfl)))) ⟨Nat.zero_le _,hs⟩ fun i env w ⟨hi,hs⟩=>?_
    repeat' (first|refine vs (k:=?_)|refine qRg ?_|refine Nx.h ?_|(refine xc_if rfl (fun hc=>?_) (fun hc=>?_))|fail)
    · have hlt:i < 3:=by omega
      have hpk:Pick cs (off+i*1) 1 [.int .u64 1]:=by
        have:i=0∨i=1∨i=2:=by omega
        rcases this with rfl | rfl | rfl <;> exact hcs _ _ rfl
      have ei:=nx64 (m:=3) hlt (by omega)
      refine ix (h0:=(by omega)) (h1:=(by omega)) (k:=?_)
      refine lh ((hs.only0 rfl).block hb (by simp)) (by cases hpk;assumption) (k:=?_)
      repeat' (first|refine vs (k:=?_)|refine qRg ?_|refine Nx.h ?_|fail)
      (with_reducible apply xs_call);exact rfl;exact rfl;exact step_ret 1 1 3 ((i % 3:Nat):Int) (by decide) (by decide) (by decide) (by omega) (by omega) (by omega) (by decide) _
      rintro v w' ⟨rfl,ho⟩;replace hs:=hs.call0 ho;repeat' (first|refine vs (k:=?_)|refine qRg ?_|refine Nx.h ?_|fail)
      (with_reducible apply xs_call);exact rfl;exact rfl;exact add64_ret ((i / 3:Nat):Int) ((1*1+((i % 3:Nat):Int)) / 3) 0 (by omega) (by omega) (by decide) (by decide) _
      rintro v w' ⟨rfl,rfl⟩
      repeat' (first|refine vs (k:=?_)|refine qRg ?_|refine Nx.h ?_|(refine xc_cond rfl (fun hc=>?_) (fun hc=>?_))|fail)
      · simp only [bne_iff_ne,ne_eq] at hc
        omega
      · have e5:(((i / 3:Nat):Int)+(1*1+((i % 3:Nat):Int)) / 3+0) % 18446744073709551616=(((i+1) / 3:Nat):Int):=by omega
        have e6:(1*1+((i % 3:Nat):Int)) % 3=(((i+1) % 3:Nat):Int):=by omega
        exact loopS_next (i+1) (by omega) (by (repeat (first | exact agree_nil | (apply agree_cons;first | exact rfl | exact congrArg (Value.int .i64) ei | exact congrArg (Value.int .u64) e5 | exact congrArg (Value.int .u64) e6)))) ⟨by omega,hs⟩
    · have e:i=3:=by omega
      subst e
      exact cutB_exit () (by (repeat (first | exact agree_nil | (apply agree_cons;exact rfl)))) hs
  · rintro _ env w hs
    repeat' (first|refine vs (k:=?_)|refine qRg ?_|refine Nx.h ?_|fail)
    first | refine rt (hq:=?_) | refine rt' (hq:=?_)
    exact ⟨rfl,hs.only0 rfl⟩
theorem Awake1_ret (w0:World):Ret Tryz.prog 340 #[] w0 fun v w'=>v = .bool true∧Only [] w0 w':=by
  have hs:=St.nil w0
  refine ret_of_xc Tryz.func340 (by kernel_rfl) rfl Tryz.ntmps340 rfl rfl rfl ?_
  repeat' (first|refine vs (k:=?_)|refine qRg ?_|refine Nx.h ?_|fail)
  (with_reducible apply xs_call);exact rfl;exact rfl;exact awake1_ret _
  rintro v w' ⟨rfl,ho⟩;replace hs:=hs.call0 ho;repeat' (first|refine vs (k:=?_)|refine Nx.h ?_|fail)
  first | refine rt (hq:=?_) | refine rt' (hq:=?_)
  exact ⟨rfl,hs.only0 rfl⟩
theorem awake2_ret (w0:World):Ret Tryz.prog 331 #[] w0 fun v w'=>v = .bool true∧Only [] w0 w':=by
  have hs:=St.nil w0
  refine ret_of_xc Tryz.func331 (by kernel_rfl) rfl Tryz.ntmps331 rfl rfl rfl ?_
  repeat' (first|refine vs (k:=?_)|refine qRg ?_|refine Nx.h ?_|fail)
  (with_reducible apply xs_call);exact rfl;exact rfl;exact step_ret 3 5 4 1 (by decide) (by decide) (by decide) (by decide) (by decide) (by decide) (by decide) _
  rintro v w' ⟨rfl,ho⟩;replace hs:=hs.call0 ho;repeat' (first|refine vs (k:=?_)|(refine bs hs (k:=?_);intro b w hz hs)|refine qRg ?_|refine Nx.h ?_|fail)
  have hb:=hs.get At.head
  (with_reducible apply xs_call);exact rfl;exact rfl;exact steps_ret _ _ ⟨some ⟨_,0,none⟩,3,rfl,fun _=>⟨_,0,_,(0,0),rfl,by decide,hb,fun i x h=>(by
    have:i=0∨i=1∨i=2:=by
      rcases Nat.lt_or_ge i 3 with h' | h'
      · omega
      · rw [List.getElem?_eq_none (by simp;omega)] at h;cases h
    rcases this with rfl | rfl | rfl <;> (cases h;exact .cons rfl .nil))⟩⟩
  rintro v w' ⟨rfl,ho⟩;replace hs:=hs.call0 ho;repeat' (first|refine vs (k:=?_)|refine qRg ?_|refine Nx.h ?_|fail)
  (with_reducible apply xs_call);exact rfl;exact rfl;exact Awake1_ret _
  rintro v w' ⟨rfl,ho⟩;replace hs:=hs.call0 ho;repeat' (first|refine vs (k:=?_)|refine Nx.h ?_|fail)
  first | refine rt (hq:=?_) | refine rt' (hq:=?_)
  exact ⟨rfl,hs.only0 rfl⟩
theorem Awake2_ret (w0:World):Ret Tryz.prog 328 #[] w0 fun v w'=>v = .bool true∧Only [] w0 w':=by
  have hs:=St.nil w0
  refine ret_of_xc Tryz.func328 (by kernel_rfl) rfl Tryz.ntmps328 rfl rfl rfl ?_
  repeat' (first|refine vs (k:=?_)|refine qRg ?_|refine Nx.h ?_|fail)
  (with_reducible apply xs_call);exact rfl;exact rfl;exact awake2_ret _
  rintro v w' ⟨rfl,ho⟩;replace hs:=hs.call0 ho;repeat' (first|refine vs (k:=?_)|refine Nx.h ?_|fail)
  first | refine rt (hq:=?_) | refine rt' (hq:=?_)
  exact ⟨rfl,hs.only0 rfl⟩
theorem awake3_ret (w0:World):Ret Tryz.prog 332 #[] w0 fun v w'=>v = .bool true∧Only [] w0 w':=by
  have hs:=St.nil w0
  refine ret_of_xc Tryz.func332 (by kernel_rfl) rfl Tryz.ntmps332 rfl rfl rfl ?_
  repeat' (first|refine vs (k:=?_)|refine qRg ?_|refine Nx.h ?_|fail)
  (with_reducible apply xs_call);exact rfl;exact rfl;exact Awake1_ret _
  rintro v w' ⟨rfl,ho⟩;replace hs:=hs.call0 ho;repeat' (first|refine vs (k:=?_)|fail)
  (with_reducible apply xs_call);exact rfl;exact rfl;exact since_ret _ _ _
  rw [show sn 2 18446744073709551615=3 from by decide]
  rintro v w' ⟨rfl,ho⟩;replace hs:=hs.call0 ho;repeat' (first|refine vs (k:=?_)|refine Nx.h ?_|fail)
  first | refine rt (hq:=?_) | refine rt' (hq:=?_)
  exact ⟨rfl,hs.only0 rfl⟩
theorem Awake3_ret (w0:World):Ret Tryz.prog 329 #[] w0 fun v w'=>v = .bool true∧Only [] w0 w':=by
  have hs:=St.nil w0
  refine ret_of_xc Tryz.func329 (by kernel_rfl) rfl Tryz.ntmps329 rfl rfl rfl ?_
  repeat' (first|refine vs (k:=?_)|refine qRg ?_|refine Nx.h ?_|fail)
  (with_reducible apply xs_call);exact rfl;exact rfl;exact awake3_ret _
  rintro v w' ⟨rfl,ho⟩;replace hs:=hs.call0 ho;repeat' (first|refine vs (k:=?_)|refine Nx.h ?_|fail)
  first | refine rt (hq:=?_) | refine rt' (hq:=?_)
  exact ⟨rfl,hs.only0 rfl⟩
theorem awake4_ret (w0:World):Ret Tryz.prog 317 #[] w0 fun v w'=>v = .bool true∧Only [] w0 w':=by
  have hs:=St.nil w0
  refine ret_of_xc Tryz.func317 (by kernel_rfl) rfl Tryz.ntmps317 rfl rfl rfl ?_
  repeat' (first|refine vs (k:=?_)|refine qRg ?_|refine Nx.h ?_|fail)
  (with_reducible apply xs_call);exact rfl;exact rfl;exact move_ret ⟨5,0,3⟩ 7 (by decide) (by decide) _
  rw [show movP ⟨5,0,3⟩ 7=some ⟨7,1,3⟩ from by decide]
  rintro v w' ⟨rfl,ho⟩;replace hs:=hs.call0 ho;repeat' (first|refine vs (k:=?_)|(refine stA hs (k:=?_);intro w hs)|(refine al hs (k:=?_);intro b w hz hs)|refine qRg ?_|refine Nx.h ?_|fail)
  (with_reducible apply xs_call);exact rfl;exact rfl;exact Awake2_ret _
  rintro v w' ⟨rfl,ho⟩;replace hs:=hs.call0 ho;repeat' (first|refine vs (k:=?_)|fail)
  (with_reducible apply xs_call);exact rfl;exact rfl;exact Awake3_ret _
  rintro v w' ⟨rfl,ho⟩;replace hs:=hs.call0 ho;repeat' (first|refine vs (k:=?_)|refine Nx.h ?_|fail)
  first | refine rt (hq:=?_) | refine rt' (hq:=?_)
  exact ⟨rfl,hs.only0 rfl⟩
theorem Awake4_ret (w0:World):Ret Tryz.prog 308 #[] w0 fun v w'=>v = .bool true∧Only [] w0 w':=by
  have hs:=St.nil w0
  refine ret_of_xc Tryz.func308 (by kernel_rfl) rfl Tryz.ntmps308 rfl rfl rfl ?_
  repeat' (first|refine vs (k:=?_)|refine qRg ?_|refine Nx.h ?_|fail)
  (with_reducible apply xs_call);exact rfl;exact rfl;exact awake4_ret _
  rintro v w' ⟨rfl,ho⟩;replace hs:=hs.call0 ho;repeat' (first|refine vs (k:=?_)|refine Nx.h ?_|fail)
  first | refine rt (hq:=?_) | refine rt' (hq:=?_)
  exact ⟨rfl,hs.only0 rfl⟩
set_option maxHeartbeats 1000000 in
theorem awake5_ret (w0:World):Ret Tryz.prog 302 #[] w0 fun v w'=>v = .bool true∧Only [] w0 w':=by
  have hs:=St.nil w0
  refine ret_of_xc Tryz.func302 (by kernel_rfl) rfl Tryz.ntmps302 rfl rfl rfl ?_
  repeat' (first|refine vs (k:=?_)|(refine st hs (k:=?_);intro w hs)|(refine stA hs (k:=?_);intro w hs)|(refine al hs (k:=?_);intro b w hz hs)|refine qRg ?_|refine Nx.h ?_|fail)
  (with_reducible apply xs_call);exact rfl;exact rfl;exact Awake4_ret _
  rintro v w' ⟨rfl,ho⟩;replace hs:=hs.call0 ho;repeat' (first|refine vs (k:=?_)|fail)
  (with_reducible apply xs_call);exact rfl;exact rfl;exact due_ret ⟨⟨1,0,1⟩,1,⟨2,0,1⟩⟩ ⟨⟨1,0,1⟩,2,⟨2,0,1⟩⟩ (by decide) (by decide) _
  rw [show due ⟨⟨1,0,1⟩,1,⟨2,0,1⟩⟩ ⟨⟨1,0,1⟩,2,⟨2,0,1⟩⟩=true from by decide]
  rintro v w' ⟨rfl,ho⟩;replace hs:=hs.call0 ho;repeat' (first|refine vs (k:=?_)|fail)
  (with_reducible apply xs_call);exact rfl;exact rfl;exact due_ret ⟨⟨1,0,1⟩,2,⟨2,0,1⟩⟩ ⟨⟨1,0,1⟩,1,⟨2,0,1⟩⟩ (by decide) (by decide) _
  rw [show due ⟨⟨1,0,1⟩,2,⟨2,0,1⟩⟩ ⟨⟨1,0,1⟩,1,⟨2,0,1⟩⟩=false from by decide]
  rintro v w' ⟨rfl,ho⟩;replace hs:=hs.call0 ho;repeat' (first|refine vs (k:=?_)|refine Nx.h ?_|fail)
  first | refine rt (hq:=?_) | refine rt' (hq:=?_)
  exact ⟨rfl,hs.only0 rfl⟩
theorem Awake5_ret (w0:World):Ret Tryz.prog 299 #[] w0 fun v w'=>v = .bool true∧Only [] w0 w':=by
  have hs:=St.nil w0
  refine ret_of_xc Tryz.func299 (by kernel_rfl) rfl Tryz.ntmps299 rfl rfl rfl ?_
  repeat' (first|refine vs (k:=?_)|refine qRg ?_|refine Nx.h ?_|fail)
  (with_reducible apply xs_call);exact rfl;exact rfl;exact awake5_ret _
  rintro v w' ⟨rfl,ho⟩;replace hs:=hs.call0 ho;repeat' (first|refine vs (k:=?_)|refine Nx.h ?_|fail)
  first | refine rt (hq:=?_) | refine rt' (hq:=?_)
  exact ⟨rfl,hs.only0 rfl⟩
end Go.Proofs.YtalffooghioekaaGreatDoorX

namespace Go.Proofs.YtalffooghioekaaGreatDoorX.IB
open Go Go.RowKit
attribute [local irreducible] XS XC XA thenE blockE retE loopE loopS cutB cutN doneE SE
def treeOf (l:List IT):RB IT:=l.foldl (fun t x=>RB.insert t x) .nil
theorem treeOf_snoc (l:List IT) (x:IT):treeOf (l ++ [x])=RB.insert (treeOf l) x:=by unfold treeOf;rw [List.foldl_append];rfl
theorem len_insert (t:RB IT) (x:IT):(RB.insert t x).list.length≤t.list.length+1:=by
  unfold RB.insert
  cases RB.has ltT x t
  · rw [cond_false,RB.list_blacken,len_ins];exact Nat.le_refl _
  · rw [cond_true];omega
theorem treeOf_len (l:List IT):∀ i,(treeOf (l.take i)).list.length≤i
  | 0=>by simp [treeOf,RB.list]
  | i+1=>by
    rcases Nat.lt_or_ge i l.length with h | h
    · rw [take_next h,treeOf_snoc]
      have:=treeOf_len l i
      have:=len_insert (treeOf (l.take i)) l[i]
      omega
    · have:=treeOf_len l i
      rw [List.take_of_length_le h] at this
      rw [List.take_of_length_le (by omega)]
      omega
theorem Obj6.keepD {w w':World} {tb:Nat} {t:RB IT} {F G:List Nat} (h:Obj6 w tb t F) (ho:Only G w w') (hd:∀ k∈F,k∉G):Obj6 w' tb t F:=by
  obtain ⟨p,fp,rfl,h1,h2,h3⟩:=h
  exact ⟨p,fp,rfl,ho.block h1 (hd tb List.mem_cons_self),h2.keepD ho (fun k hk=>hd k (List.mem_cons_of_mem _ hk)),h3⟩
theorem Obj6.only {w w':World} {tb:Nat} {t:RB IT} {F:List Nat} (h:Obj6 w tb t F) (ho:Only [] w w'):Obj6 w' tb t F:=h.keepD ho (by simp)
theorem Obj6.lt {w:World} {tb:Nat} {t:RB IT} {F:List Nat} (h:Obj6 w tb t F):∀ b∈F,b < w.heap.size:=by
  obtain ⟨p,fp,rfl,h1,h2,h3⟩:=h
  intro b hb
  rcases List.mem_cons.1 hb with rfl | hb
  · exact lt_of_block h1
  · exact h2.nodes.lt b hb
theorem Obj6.not {w:World} {tb:Nat} {t:RB IT} {F:List Nat} (h:Obj6 w tb t F) {b:Nat} {cs:Array Value} {ty:Nat} {fz:Nat × Nat} (hb:w.heap[b]?=some (.cells cs ty fz)) (h1:ty≠295) (h2:ty≠225):b∉F:=fun hm=>by
  obtain ⟨p,fp,rfl,k1,k2,k3⟩:=h
  rcases List.mem_cons.1 hm with rfl | hm
  · exact blocks_ne hb k1 h2 rfl
  · obtain ⟨cs',fz',k4⟩:=k2.nodes b hm
    exact blocks_ne hb k4 h1 rfl
set_option maxHeartbeats 2000000 in
theorem newTree_ret (l:List IT) (sl:Value) (hm:l.length≤1000000) (w0:World) (hP:ITsAt w0 sl l) :
    Ret Tryz.prog 187 #[sl] w0 fun v w'=>(∃ tb F,v = .agg #[.pointer (some ⟨tb,0,none⟩)]∧Obj6 w' tb (treeOf l) F∧∀ k∈F,w0.heap.size≤k)∧Only [] w0 w':=by
  obtain ⟨ad,cap,rfl,hD⟩:=hP
  rw [List.length_map,List.length_map] at *
  have hs:=St.nil w0
  refine ret_of_xc Tryz.func187 (by kernel_rfl) rfl Tryz.ntmps187 rfl rfl rfl ?_
  refine xc_seq ?_
  refine xc_region ?_ ?_;exact rfl
  refine al hs (k:=?_);intro b2 w hz hs
  repeat' (first|refine qRg ?_|refine Nx.h ?_|fail)
  (with_reducible apply xs_call);exact rfl;exact rfl;exact rbNewOf_ret _
  rintro v w1 ⟨⟨tb,F0,rfl,hT0,hF0⟩,ho⟩;replace hs:=hs.call0 ho
  have n2:=hs.new (b2,true) (by simp) rfl
  simp only at n2
  have hb2:=hs.get At.head
  have ho1:Only [] w0 w1:=hs.only0 rfl
  have hz1:=ho1.size
  have hF1:∀ k∈F0,w0.heap.size≤k:=fun k hk=>by have:=hF0 k hk;omega
  clear hs
  have hs:=(St.nil w1).track hb2 (by simp)
  refine vs (k:=?_)
  refine al hs (k:=?_);intro b3 w3 hz3 hs
  repeat' (first|refine vs (k:=?_)|(refine stA hs (k:=?_);intro w hs)|refine qRg ?_|refine Nx.h ?_|fail)
  have n3:=hs.new (b3,true) (by simp) rfl
  simp only at n3
  have ho2:=hs.onlyF [] (by simp [hb2]) (by simp [D0])
  refine xc_cutB (fun (_:Unit)=>[(2,.pointer (some ⟨b2,0,none⟩)),(3,.pointer (some ⟨b3,0,none⟩))])
    (fun _ w=>Only [] w0 w∧w.heap[b2]?=some (.cells #[.pointer none] 129 (0,0))∧w.heap[b3]?=some (.cells #[.pointer (some ⟨tb,0,none⟩)] 129 (0,0))∧∃ F,Obj6 w tb (treeOf l) F∧∀ k∈F,w0.heap.size≤k) ?_ ?_
  · refine xc_loopS (fun (i:Nat)=>[(2,.pointer (some ⟨b2,0,none⟩)),(3,.pointer (some ⟨b3,0,none⟩)),(8,.slice ad l.length cap),(9,.int .i64 (l.length:Nat)),(10,.int .i64 (i:Nat))])
      (fun i w=>i≤l.length∧Only [] w0 w∧w.heap[b2]?=some (.cells #[.pointer none] 129 (0,0))∧w.heap[b3]?=some (.cells #[.pointer (some ⟨tb,0,none⟩)] 129 (0,0))∧∃ F,Obj6 w tb (treeOf (l.take i)) F∧∀ k∈F,w0.heap.size≤k)
      (fun i=>l.length - i) 0 (by (repeat (first | exact agree_nil | (apply agree_cons;exact rfl)))) ⟨Nat.zero_le _,ho1.step ho2 (by simp),hs.get (At.tail At.head),hs.get At.head,F0,hT0.only ho2,hF1⟩ fun i env w ⟨hi,ho,h2,h3,F,hT,hF⟩=>?_
    clear hs ho2
    have hs:=(St.nil w).track h3 (by simp)
    repeat' (first|refine vs (k:=?_)|refine qRg ?_|refine Nx.h ?_|(refine xc_if rfl (fun hc=>?_) (fun hc=>?_))|fail)
    · have hlt:i < l.length:=by omega
      obtain ⟨b,off,cs,fz,rfl,_,hb,hcs⟩:=hD (fun h=>by have:=congrArg List.length h;rw [List.length_map,List.length_map,List.length_nil] at this;omega)
      have hpk:=hcs i (It.cells l[i].1) (by rw [List.getElem?_map,List.getElem?_map,List.getElem?_eq_getElem hlt];rfl)
      have ei:=nx64 hlt (show l.length≤9223372036854775807 by omega)
      have hsn:=treeOf_snoc (l.take i) l[i]
      rw [← take_next hlt] at hsn
      have hlen:=treeOf_len l i
      generalize l[i]=x at *
      refine ix (h0:=(by omega)) (h1:=(by omega)) (k:=?_)
      refine lhK (ho.block hb (by simp)) hpk (k:=?_)
      refine al hs (k:=?_);intro b5 w5 hz5 hs
      repeat' (first|refine vs (k:=?_)|(refine stA hs (k:=?_);intro w hs)|refine qRg ?_|refine Nx.h ?_|fail)
      have ho3:=hs.onlyF [] (by simp [h3]) (by simp [D0])
      (with_reducible apply xs_call);exact rfl;exact rfl;exact rbInsert_ret tb _ F x _ (hT.only ho3) (by omega)
      rintro v w6 ⟨rfl,F',hT',hF',ho6⟩
      have k3:=ho6.block (hs.get (At.tail At.head)) ((hT.only ho3).not (hs.get (At.tail At.head)) (by decide) (by decide))
      have k2:=ho6.block (ho3.block h2 (by simp)) ((hT.only ho3).not (ho3.block h2 (by simp)) (by decide) (by decide))
      have hz3:=ho3.size
      have hzz:=ho.size
      clear hs
      have hs:=St.nil w6
      repeat' (first|refine vs (k:=?_)|refine qRg ?_|refine Nx.h ?_|fail)
      refine loopS_next (i+1) (by omega) (by (repeat (first | exact agree_nil | (apply agree_cons;first | exact rfl | exact congrArg (Value.int .i64) ei)))) ⟨by omega,(ho.step ho3 (by simp)).step (ho6.trans (hs.only0 rfl)) (fun k hk=>?_),k2,k3,F',by rw [hsn];exact hT',fun k hk=>?_⟩
      · rw [List.append_nil] at hk
        exact .inr (hF k hk)
      · rcases hF' k hk with h | h
        · exact hF k h
        · omega
    · have e:i=l.length:=by omega
      rw [e,List.take_length] at hT
      exact cutB_exit () (by (repeat (first | exact agree_nil | (apply agree_cons;exact rfl)))) ⟨ho,h2,h3,F,hT,hF⟩
  · rintro _ env w ⟨ho,h2,h3,F,hT,hF⟩
    clear hs ho2
    by_cases g3:b3=b2
    · subst g3;rw [h2] at h3;cases h3
    have hs:=((St.nil w).track h3 (by simp)).track h2 (by simpa using Ne.symm g3)
    repeat' (first|refine vs (k:=?_)|(refine stA hs (k:=?_);intro w hs)|refine qRg ?_|refine Nx.h ?_|fail)
    first | refine rt (hq:=?_) | refine rt' (hq:=?_)
    have ho4:=hs.onlyF [b2] (by simp [h3]) (by simp [D0])
    exact ⟨⟨tb,F,rfl,hT.keepD ho4 (fun k hk hm=>by obtain rfl:=List.mem_singleton.1 hm;exact hT.not h2 (by decide) (by decide) hk),hF⟩,ho.step ho4 (by simp [n2])⟩
theorem plain_ret (id t d:Int) (w0:World):Ret Tryz.prog 297 #[.int .i64 id,.int .u64 t,.int .u64 d] w0 fun v w'=>v=iv ⟨⟨t,0,1⟩,id,⟨d,0,1⟩⟩∧Only [] w0 w':=by
  have hs:=St.nil w0
  refine ret_of_xc Tryz.func297 (by kernel_rfl) rfl Tryz.ntmps297 rfl rfl rfl ?_
  repeat' (first|refine vs (k:=?_)|(refine stA hs (k:=?_);intro w hs)|(refine al hs (k:=?_);intro b w hz hs)|refine qRg ?_|refine Nx.h ?_|fail)
  first | refine rt (hq:=?_) | refine rt' (hq:=?_)
  exact ⟨rfl,hs.only0 rfl⟩
theorem q7_ret (a:It) (w0:World):Ret Tryz.prog 298 #[iv a] w0 fun v w'=>v = .bool (decide (a.p.t < 3))∧Only [] w0 w':=by
  have hs:=St.nil w0
  refine ret_of_xc Tryz.func298 (by kernel_rfl) rfl Tryz.ntmps298 rfl rfl rfl ?_
  repeat' (first|refine vs (k:=?_)|(refine bx hs (k:=?_);intro b w hz hs)|refine qRg ?_|refine Nx.h ?_|fail)
  first | refine rt (hq:=?_) | refine rt' (hq:=?_)
  exact ⟨rfl,hs.only0 rfl⟩
theorem dsoonest_ret (tb:Nat) (t:RB IT) (F:List Nat) (w0:World) (h:Obj6 w0 tb t F) (fid:Nat) (caps:List Value) (q:IT→Bool)
    (hq:∀ (y:IT) (w:World),y∈t.list→Only [] w0 w→Ret Tryz.prog fid (iv y.1 :: caps).toArray w fun v w'=>v = .bool (q y)∧Only [] w w') :
    Ret Tryz.prog 252 #[.agg #[.pointer (some ⟨tb,0,none⟩)],.func (.func fid) #[] caps.toArray] w0 fun v w'=>v = .tuple #[iv (valO (foldT q t none)),.bool (foldT q t none).isSome]∧Only [] w0 w':=by
  have hs:=St.nil w0
  refine ret_of_xc Tryz.func252 (by kernel_rfl) rfl Tryz.ntmps252 rfl rfl rfl ?_
  repeat' (first|refine vs (k:=?_)|(refine al hs (k:=?_);intro b w hz hs)|(refine bx hs (k:=?_);intro b w hz hs)|refine qRg ?_|refine Nx.h ?_|fail)
  have ho:=hs.only0 rfl
  (with_reducible apply xs_call);exact rfl;exact rfl;exact fold_ret tb t F _ (h.only ho) fid caps q (fun y w hy hw=>hq y w hy (ho.step hw (by simp)))
  rintro v w' ⟨rfl,ho⟩;replace hs:=hs.call0 ho;repeat' (first|refine vs (k:=?_)|(refine stA hs (k:=?_);intro w hs)|refine Nx.h ?_|fail)
  first | refine rt (hq:=?_) | refine rt' (hq:=?_)
  exact ⟨rfl,hs.only0 rfl⟩
theorem Awake6_ret (w0:World):Ret Tryz.prog 300 #[] w0 fun v w'=>v = .bool true∧Only [] w0 w':=by
  have hs:=St.nil w0
  refine ret_of_xc Tryz.func300 (by kernel_rfl) rfl Tryz.ntmps300 rfl rfl rfl ?_
  repeat' (first|refine vs (k:=?_)|refine qRg ?_|refine Nx.h ?_|fail)
  (with_reducible apply xs_call);exact rfl;exact rfl;exact awake6_ret _
  rintro v w' ⟨rfl,ho⟩;replace hs:=hs.call0 ho;repeat' (first|refine vs (k:=?_)|refine Nx.h ?_|fail)
  first | refine rt (hq:=?_) | refine rt' (hq:=?_)
  exact ⟨rfl,hs.only0 rfl⟩
def ex1:IT:=⟨⟨⟨1,0,1⟩,1,⟨9,0,1⟩⟩,by decide⟩
def ex2:IT:=⟨⟨⟨2,0,1⟩,2,⟨5,0,1⟩⟩,by decide⟩
def ex3:IT:=⟨⟨⟨3,0,1⟩,3,⟨4,0,1⟩⟩,by decide⟩
theorem its_arr {w:World} {b:Nat} {l:List IT} (hn:l.length=3) (hb:w.heap[b]?=some (.cells (flatT l).toArray 64 (0,0))):ITsAt w (.slice (some ⟨b,0,none⟩) 3 3) l:=by
  have e:(flatT l).length=21:=by
    have:∀ l:List IT,(flatT l).length=7*l.length:=fun l=>by
      induction l with
      | nil=>rfl
      | cons a l ih=>unfold flatT at ih ⊢;rw [List.map_cons,List.flatten_cons,List.length_append,ih,show (a.1.cells).length=7 from rfl,List.length_cons];omega
    rw [this,hn]
  refine its_of (G:=[b]) (.inr ⟨b,3,flatT l,by rw [hn],rfl,by omega,by rw [e],by rw [e,hn],?_,hb⟩)
  rw [hn]
  exact List.take_of_length_le (by rw [e];exact Nat.le_refl _)
set_option maxHeartbeats 2000000 in
theorem awake7_ret (w0:World):Ret Tryz.prog 294 #[] w0 fun v w'=>v = .bool true∧Only [] w0 w':=by
  have hs:=St.nil w0
  refine ret_of_xc Tryz.func294 (by kernel_rfl) rfl Tryz.ntmps294 rfl rfl rfl ?_
  repeat' (first|refine vs (k:=?_)|refine qRg ?_|refine Nx.h ?_|fail)
  (with_reducible apply xs_call);exact rfl;exact rfl;exact plain_ret 1 1 9 _
  rintro v w' ⟨rfl,ho⟩;replace hs:=hs.call0 ho;skip
  (with_reducible apply xs_call);exact rfl;exact rfl;exact plain_ret 2 2 5 _
  rintro v w' ⟨rfl,ho⟩;replace hs:=hs.call0 ho;skip
  (with_reducible apply xs_call);exact rfl;exact rfl;exact plain_ret 3 3 4 _
  rintro v w' ⟨rfl,ho⟩;replace hs:=hs.call0 ho;repeat' (first|(refine bs hs (k:=?_);intro b w hz hs)|fail)
  (with_reducible apply xs_call);exact rfl;exact rfl;exact newTree_ret [ex1,ex2,ex3] _ (by decide) _ (its_arr rfl (hs.get At.head))
  rintro v w1 ⟨⟨tb,F,rfl,hT,hF⟩,ho⟩;replace hs:=hs.call0 ho
  have ho1:Only [] w0 w1:=hs.only0 rfl
  clear hs
  have hs:=St.nil w1
  repeat' (first|refine vs (k:=?_)|(refine stA hs (k:=?_);intro w hs)|(refine al hs (k:=?_);intro b w hz hs)|refine qRg ?_|refine Nx.h ?_|fail)
  (with_reducible apply xs_call);exact rfl;exact rfl;exact dsoonest_ret tb _ F _ (hT.only (hs.only0 rfl)) 298 [] (fun y=>decide (y.1.p.t < 3)) (fun y w _ _=>q7_ret y.1 w)
  rw [show (foldT (fun y=>decide (y.1.p.t < 3)) (treeOf [ex1,ex2,ex3]) none)=some ex2 from by kernel_rfl]
  rintro v w' ⟨rfl,ho⟩;replace hs:=hs.call0 ho;repeat' (first|refine vs (k:=?_)|(refine stA hs (k:=?_);intro w hs)|(refine al hs (k:=?_);intro b w hz hs)|refine qRg ?_|refine Nx.h ?_|fail)
  (with_reducible apply xs_call);exact rfl;exact rfl;exact Awake5_ret _
  rintro v w' ⟨rfl,ho⟩;replace hs:=hs.call0 ho;repeat' (first|refine vs (k:=?_)|fail)
  (with_reducible apply xs_call);exact rfl;exact rfl;exact Awake6_ret _
  rintro v w' ⟨rfl,ho⟩;replace hs:=hs.call0 ho;repeat' (first|refine vs (k:=?_)|refine Nx.h ?_|fail)
  first | refine rt (hq:=?_) | refine rt' (hq:=?_)
  exact ⟨rfl,ho1.trans (hs.only0 rfl)⟩
theorem Awake7_ret (w0:World):Ret Tryz.prog 292 #[] w0 fun v w'=>v = .bool true∧Only [] w0 w':=by
  have hs:=St.nil w0
  refine ret_of_xc Tryz.func292 (by kernel_rfl) rfl Tryz.ntmps292 rfl rfl rfl ?_
  repeat' (first|refine vs (k:=?_)|refine qRg ?_|refine Nx.h ?_|fail)
  (with_reducible apply xs_call);exact rfl;exact rfl;exact awake7_ret _
  rintro v w' ⟨rfl,ho⟩;replace hs:=hs.call0 ho;repeat' (first|refine vs (k:=?_)|refine Nx.h ?_|fail)
  first | refine rt (hq:=?_) | refine rt' (hq:=?_)
  exact ⟨rfl,hs.only0 rfl⟩
end Go.Proofs.YtalffooghioekaaGreatDoorX.IB

namespace Go.Proofs.YtalffooghioekaaGreatDoorX.IB
open Go Go.RowKit
attribute [local irreducible] XS XC XA thenE blockE retE loopE loopS cutB cutN doneE SE
def rootC (l r:RB IT) (c:Bool):Bool:=bif !l.red && !r.red then true else c
def delC (x:IT):RB IT→Option (RB IT)
  | .nil=>none
  | .node l y r c=>RB.cut ltT x (RB.node l y r c).list.length (.node l y r (rootC l r c))
structure DelI (w1:World) (b tb bq:Nat) (y:IT) (av:It) (pl pr:Option Addr) (n:Int) (x:IT) (q:Bool) (w:World):Prop where
  o:Only [b] w1 w
  hb:w.heap[b]?=some (nodeO y av pl pr q)
  hT:w.heap[tb]?=some (treeO (some ⟨b,0,none⟩) n)
  hQ:w.heap[bq]?=some (itqO x.1)
set_option maxHeartbeats 4000000 in
theorem rbDelete_ret (tb:Nat) (t:RB IT) (F:List Nat) (x:IT) (t1:RB IT) (w0:World) (h:Obj6 w0 tb t F) (hd:RB.has ltT x t=true→delC x t=some t1∧t1.list.length+1=t.list.length) (hlen:t.list.length≤1000000) :
    Ret Tryz.prog 240 #[.pointer (some ⟨tb,0,none⟩),iv x.1] w0 fun v w'=>v = .bool (RB.has ltT x t)∧∃ F',Obj6 w' tb (bif RB.has ltT x t then RB.blacken t1 else t) F'∧(∀ k∈F',k∈F∨w0.heap.size≤k)∧Only F w0 w':=by
  obtain ⟨p,fp,rfl,hT,ht,hnd⟩:=h
  have hs:=St.nil w0
  have lt1:=lt_of_block hT
  have lt3:=ht.nodes.lt
  refine ret_of_xc Tryz.func240 (by kernel_rfl) rfl Tryz.ntmps240 rfl rfl rfl ?_;refine xc_seq ?_;refine xc_region ?_ ?_;exact rfl;refine bx hs (k:=?_);intro bq wq hzq hs;repeat' (first|refine vs (k:=?_)|refine qRg ?_|refine Nx.h ?_|fail)
  have hbq:=hs.new (bq,true) (by simp) rfl
  simp only at hbq
  have ho0:=hs.only0 rfl
  (with_reducible apply xs_call);exact rfl;exact rfl;exact has_ret tb p _ t fp x _ (ho0.block hT (by simp)) (ht.keep ho0 (Nodes.nil _) (by simp))
  rintro v w1 ⟨rfl,ho⟩;replace hs:=hs.call0 ho
  have ho1:=hs.only0 rfl
  cases hh:RB.has ltT x t
  · rw [cond_false]
    repeat' (first|refine vs (k:=?_)|refine qRg ?_|refine Nx.h ?_|refine qCt ?_|fail)
    first | refine rt (hq:=?_) | refine rt' (hq:=?_)
    have ho1:=hs.only0 rfl
    exact ⟨rfl,tb :: fp,Obj6.only ⟨p,fp,rfl,hT,ht,hnd⟩ ho1,fun k hk => .inl hk,ho1.weaken (by simp)⟩
  · rw [cond_true]
    obtain ⟨hd,hln⟩:=hd hh
    cases t with
    | nil=>cases hh
    | node l y r c =>
    unfold delC at hd
    obtain ⟨b,av,pl,pr,fl,fr,rfl,rfl,hb,hav,hl,hr⟩:=ht
    have hbt:=head_ne hT hb
    have hT1:=head_keep hT ho1 (Nodes.nil _)
    have hb1:=ho1.block hb (by simp)
    have hl1:=hl.keep ho1 (Nodes.nil _) (by simp)
    have hr1:=hr.keep ho1 (Nodes.nil _) (by simp)
    have hN1:Nodes w1 [b]:=Nodes.cons hb1 (Nodes.nil _)
    have hbn:b∉fl∧b∉fr:=by simp only [List.nodup_cons,List.mem_append,not_or] at hnd;exact hnd.1
    have hQ1:=hs.get At.head
    have hI1:DelI w1 b tb bq y av pl pr ((RB.node l y r c).list.length:Nat) x c w1:=⟨Only.refl _ _,hb1,hT1,hQ1⟩
    clear hs
    have hs:=((St.nil w1).track hT1 (by simp)).track hb1 (by simpa using hbt)
    have elen:IntKind.i64.wrap (((RB.node l y r c).list.length:Nat) - 1)=((t1.list.length:Nat):Int):=by
      rw [i64_small (by omega) (by omega)]
      omega
    repeat' (first|refine vs (k:=?_)|refine Nx.h ?_|refine qCf ?_|fail)
    refine xc_cutN (fun _:Unit=>[(0,.pointer (some ⟨tb,0,none⟩)),(3,.pointer (some ⟨bq,0,none⟩)),(28,.bool (!l.red && !r.red))]) (fun _ w=>Only [] w1 w) ?_ ?_
    · repeat' (first|refine vs (k:=?_)|refine qRg ?_|fail)
      (with_reducible apply xs_call);exact rfl;exact rfl;exact isRed_ret l pl fl _ (hl1.keep (hs.onlyF [] (by simp [hT1,hb1]) (by simp [D0])) (Nodes.nil _) (by simp))
      rintro v w' ⟨rfl,ho⟩;replace hs:=hs.call0 ho
      cases hq:l.red
      · repeat' (first|refine vs (k:=?_)|fail)
        (with_reducible apply xs_call);exact rfl;exact rfl;exact isRed_ret r pr fr _ (hr1.keep (hs.onlyF [] (by simp [hT1,hb1]) (by simp [D0])) (Nodes.nil _) (by simp))
        rintro v w' ⟨rfl,ho⟩;replace hs:=hs.call0 ho
        generalize r.red=q2
        repeat' (first|refine vs (k:=?_)|refine Nx.h ?_|fail)
        exact cutN_normal () (by (repeat (first | exact agree_nil | (apply agree_cons;exact rfl)))) (hs.onlyF [] (by simp [hT1,hb1]) (by simp [D0]))
      · repeat' (first|refine vs (k:=?_)|refine ps (k:=?_)|refine Nx.h ?_|fail)
        exact cutN_normal () (by (repeat (first | exact agree_nil | (apply agree_cons;exact rfl)))) (hs.onlyF [] (by simp [hT1,hb1]) (by simp [D0]))
    clear hs
    rintro _ env wA hoA
    have hIA:DelI w1 b tb bq y av pl pr ((RB.node l y r c).list.length:Nat) x c wA:=⟨hoA.weaken (by simp),hoA.block hb1 (by simp),hoA.block hT1 (by simp),hoA.block hQ1 (by simp)⟩
    refine xc_cutN (fun _:Unit=>[(0,.pointer (some ⟨tb,0,none⟩)),(3,.pointer (some ⟨bq,0,none⟩))]) (fun _ w=>DelI w1 b tb bq y av pl pr ((RB.node l y r c).list.length:Nat) x (rootC l r c) w) ?_ ?_
    · unfold rootC
      cases hq:(!l.red && !r.red)
      · repeat' (first|refine Nx.h ?_|refine qCf ?_|fail)
        exact cutN_normal () (by (repeat (first | exact agree_nil | (apply agree_cons;exact rfl)))) hIA
      · have hs:=((St.nil wA).track hIA.hT (by simp)).track hIA.hb (by simpa using hbt)
        repeat' (first|refine vs (k:=?_)|(refine st hs (k:=?_);intro w hs)|refine qRg ?_|refine Nx.h ?_|refine qCt ?_|fail)
        have ho2:=hs.onlyF [b] (by simp [hIA.hT]) (by simp [D0])
        exact cutN_normal () (by (repeat (first | exact agree_nil | (apply agree_cons;exact rfl)))) ⟨hIA.o.step ho2 (fun k hk => .inl hk),hs.get At.head,hs.get (At.tail At.head),ho2.block hIA.hQ (by simpa using blocks_ne hIA.hQ hIA.hb (by decide))⟩
    clear hIA hoA hI1
    rintro _ env wB hI
    have n1:=blocks_ne hI.hQ hI.hb (by decide)
    have n2:=blocks_ne hI.hQ hI.hT (by decide)
    have htr:TreeAt wB (.node l y r (rootC l r c)) (some ⟨b,0,none⟩) (b :: (fl ++ fr)):=⟨b,av,pl,pr,fl,fr,rfl,rfl,hI.hb,hav,hl1.keep hI.o hN1 (fun k hk hm=>by obtain rfl:=List.mem_singleton.1 hm;exact hbn.1 hk),hr1.keep hI.o hN1 (fun k hk hm=>by obtain rfl:=List.mem_singleton.1 hm;exact hbn.2 hk)⟩
    have oB:Only (b :: (fl ++ fr)) w0 wB:=(ho1.weaken (by simp)).step hI.o (fun k hk => .inl (by obtain rfl:=List.mem_singleton.1 hk;exact List.mem_cons_self))
    have hs:=((St.nil wB).track hI.hT (by simp)).track hI.hQ (by simpa using n2)
    repeat' (first|refine Nx.h ?_|fail)
    refine dr [10] hs (k:=?_);intro hX w hs
    refine tk 0 hX (k:=?_)
    refine tk 1 hX (k:=?_)
    refine tk 2 hX (k:=?_)
    refine tk 3 hX (k:=?_)
    refine tk 4 hX (k:=?_)
    refine tk 5 hX (k:=?_)
    refine tk 6 hX (k:=?_)
    refine dt 7 hX (k:=?_)
    have ho2:=hs.onlyF [] (by simp [hI.hT,hI.hQ]) (by simp [D0])
    have htr2:=htr.keep ho2 (Nodes.nil _) (by simp)
    have hTw:=hs.get (At.tail At.head)
    have hQw:=hs.get At.head
    (with_reducible apply xs_call);exact rfl;exact rfl;exact cut_ret tb _ _ x _ _ t1 _ _ _ hTw htr2 hnd (by simpa [RB.list] using hlen) hd
    rintro v w3 ⟨p',fp',rfl,k1,k2,k3,k4⟩
    have o2:=oB.step ho2 (by simp)
    have k3':=sub_up (fun k hk => .inl hk) k3 o2.size
    have k4':=o2.step k4 (fun k hk => .inl hk)
    have hT3:=head_keep hTw k4 htr2.nodes
    have hQ3:=k4.block hQw (nodes_q htr2.nodes hQw)
    clear hs
    cases t1 with
    | nil =>
      obtain ⟨rfl,rfl⟩:=k1
      have hs:=((St.nil w3).track hT3 (by simp)).track hQ3 (by simpa using n2)
      repeat' (first|refine Nx.h ?_|fail)
      refine dn (k:=?_)
      refine tk 8 hX (k:=?_)
      refine tk 9 hX (k:=?_)
      refine dt 10 hX (k:=?_)
      repeat' (first|(refine st hs (k:=?_);intro w hs)|refine Nx.h ?_|fail)
      refine dn (k:=?_)
      refine en (k:=?_)
      repeat' (first|refine vs (k:=?_)|(refine st hs (k:=?_);intro w hs)|refine qRg ?_|refine Nx.h ?_|refine qCf ?_|fail)
      first | refine rt (hq:=?_) | refine rt' (hq:=?_)
      rw [elen] at hs
      have ho4:Only [tb] w3 _:=hs.onlyF [tb] (by simp [hQ3]) (by simp [D0])
      refine ⟨rfl,[tb],⟨none,[],rfl,hs.get (At.tail At.head),⟨rfl,rfl⟩,List.nodup_nil⟩,?_,?_⟩
      · exact fun k hk => .inl (by obtain rfl:=List.mem_singleton.1 hk;exact List.mem_cons_self)
      · exact (k4'.weaken (fun k hk=>List.mem_cons_of_mem _ hk)).step ho4 (fun k hk => .inl (by obtain rfl:=List.mem_singleton.1 hk;exact List.mem_cons_self))
    | node l1 y1 r1 c1 =>
      obtain ⟨b',av',pl',pr',fl',fr',rfl,rfl,hb',hav',hl',hr'⟩:=k1
      have hbt':=head_ne hT3 hb'
      have hbq':=blocks_ne hb' hQ3 (by decide)
      have hs:=(((St.nil w3).track hT3 (by simp)).track hQ3 (by simpa using n2)).track hb' (by simp [hbt',hbq'])
      repeat' (first|refine Nx.h ?_|fail)
      refine dn (k:=?_)
      refine tk 8 hX (k:=?_)
      refine tk 9 hX (k:=?_)
      refine dt 10 hX (k:=?_)
      repeat' (first|(refine st hs (k:=?_);intro w hs)|refine Nx.h ?_|fail)
      refine dn (k:=?_)
      refine en (k:=?_)
      repeat' (first|refine vs (k:=?_)|(refine st hs (k:=?_);intro w hs)|refine qRg ?_|refine Nx.h ?_|refine qCt ?_|fail)
      first | refine rt (hq:=?_) | refine rt' (hq:=?_)
      rw [elen] at hs
      have ho4:Only [b',tb] w3 _:=hs.onlyF [b',tb] (by simp [hQ3]) (by simp [D0])
      have hbn':b'∉fl'∧b'∉fr':=by
        simp only [List.nodup_cons,List.mem_append,not_or] at k2
        exact k2.1
      have htn:tb∉fl'∧tb∉fr':=⟨(fun h=>by obtain ⟨_,_,h⟩:=hl'.nodes tb h;rw [hT3] at h;cases h),(fun h=>by obtain ⟨_,_,h⟩:=hr'.nodes tb h;rw [hT3] at h;cases h)⟩
      refine ⟨rfl,tb :: (b' :: (fl' ++ fr')),⟨_,_,rfl,hs.get (At.tail (At.tail At.head)),⟨b',av',pl',pr',fl',fr',rfl,rfl,hs.get At.head,hav',tree_keep2 hl' ho4 hb' hT3 hbn'.1 htn.1,tree_keep2 hr' ho4 hb' hT3 hbn'.2 htn.2⟩,k2⟩,?_,?_⟩
      · intro k hk
        rcases List.mem_cons.1 hk with rfl | hk
        · exact .inl List.mem_cons_self
        · rcases k3' k hk with h | h
          · exact .inl (List.mem_cons_of_mem _ h)
          · exact .inr h
      · refine (k4'.weaken (fun k hk=>List.mem_cons_of_mem _ hk)).step ho4 (fun k hk=>?_)
        simp only [List.mem_cons,List.not_mem_nil,or_false] at hk
        rcases hk with rfl | rfl
        · rcases k3' k List.mem_cons_self with h | h
          · exact .inl (List.mem_cons_of_mem _ h)
          · exact .inr h
        · exact .inl List.mem_cons_self
end Go.Proofs.YtalffooghioekaaGreatDoorX.IB

namespace Go.Proofs.YtalffooghioekaaGreatDoorX.IB
open Go Go.RowKit
attribute [local irreducible] XS XC XA thenE blockE retE loopE loopS cutB cutN doneE SE
set_option maxHeartbeats 2000000 in
theorem copied_ret:∀ (t:RB IT) (p:Option Addr) (fp:List Nat) (w0:World) (h:TreeAt w0 t p fp),Ret Tryz.prog 248 #[.pointer p] w0 fun v w'=>(∃ p' fp',v = .pointer p'∧TreeAt w' t p' fp'∧fp'.Nodup∧∀ k∈fp',w0.heap.size≤k)∧Only [] w0 w'
  | .nil,p,fp,w0,⟨hp,hf⟩=>by
    subst hp
    have hs:=St.nil w0
    refine ret_of_xc Tryz.func248 (by kernel_rfl) rfl Tryz.ntmps248 rfl rfl rfl ?_
    repeat' (first|refine vs (k:=?_)|refine qRg ?_|refine Nx.h ?_|refine qCt ?_|fail)
    first | refine rt (hq:=?_) | refine rt' (hq:=?_)
    exact ⟨⟨none,[],rfl,⟨rfl,rfl⟩,List.nodup_nil,fun k h=>by cases h⟩,hs.only0 rfl⟩
  | .node l y r c,p,fp,w0,⟨b,av,pl,pr,fl,fr,hp,hf,hb,hav,hl,hr⟩=>by
    subst hp hf
    have hs:=(St.nil w0).track hb (by simp)
    refine ret_of_xc Tryz.func248 (by kernel_rfl) rfl Tryz.ntmps248 rfl rfl rfl ?_
    repeat' (first|refine Nx.h ?_|fail)
    refine xc_region ?_ ?_;exact rfl
    repeat' (first|refine vs (k:=?_)|refine Nx.h ?_|fail)
    refine xc_region ?_ ?_;exact rfl
    repeat' (first|refine vs (k:=?_)|refine Nx.h ?_|refine qCf ?_|fail)
    refine xc_region ?_ ?_;exact rfl
    refine vs (k:=?_)
    refine vs (k:=?_)
    refine vs (k:=?_)
    refine al hs (k:=?_);intro b3 w hz hs
    repeat' (first|(refine stA hs (k:=?_);intro w hs)|refine Nx.h ?_|fail)
    have hnew:=hs.new (b3,true) (by simp) rfl
    refine dr [11,13] hs (k:=?_);intro hX w hs
    refine tk 0 hX (k:=?_)
    refine tk 1 hX (k:=?_)
    refine tk 2 hX (k:=?_)
    refine tk 3 hX (k:=?_)
    refine tk 5 hX (k:=?_)
    refine tk 6 hX (k:=?_)
    refine tk 7 hX (k:=?_)
    refine tk 8 hX (k:=?_)
    refine dt 4 hX (k:=?_)
    have ho1:=hs.onlyF [] (by simp [hb]) (by simp [D0])
    have hb3:=hs.get At.head
    (with_reducible apply xs_call);exact rfl;exact rfl;exact copied_ret l pl fl _ (hl.keep ho1 (Nodes.nil _) (by simp))
    rintro v w1 ⟨⟨pl',fl',rfl,hl',hnl',hgl'⟩,ho⟩;replace hs:=hs.call0 ho
    repeat' (first|refine Nx.h ?_|fail)
    refine dn (k:=?_)
    refine dt 9 hX (k:=?_)
    have ho2:=hs.onlyF [] (by simp [hb]) (by simp [D0])
    (with_reducible apply xs_call);exact rfl;exact rfl;exact copied_ret r pr fr _ (hr.keep ho2 (Nodes.nil _) (by simp))
    rintro v w2 ⟨⟨pr',fr',rfl,hr',hnr',hgr'⟩,ho'⟩;replace hs:=hs.call0 ho'
    have hl2:=hl'.keep ho' (Nodes.nil _) (by simp)
    have ho3:=hs.onlyF [] (by simp [hb]) (by simp [D0])
    have hb4:=hs.get At.head
    have hb5:=hs.get (At.tail At.head)
    have hsz1:=ho1.size
    have hsz:=ho.size
    have hsz2:=ho2.size
    have hlt3:=lt_of_block hb3
    have d1:b3∉fl':=fun h=>by have:=hgl' b3 h;omega
    have d2:b3∉fr':=fun h=>by have:=hgr' b3 h;have:=hl'.nodes.lt;omega
    have d3:∀ i∈fl',∀ j∈fr',i≠j:=fun i hi j hj e=>by
      subst e
      have:=hgr' i hj
      have:=hl'.nodes.lt i hi
      omega
    have hbb:b3≠b:=fun e=>by subst e;have:=lt_of_block hb;have:w0.heap.size≤b3:=hnew;omega
    repeat' (first|refine Nx.h ?_|fail)
    refine dn (k:=?_)
    refine tk 10 hX (k:=?_)
    clear hs
    have hs:=((St.nil w2).track hb5 (by simp)).track hb4 (by simpa using hbb)
    refine dt 11 hX (k:=?_)
    repeat' (first|(refine st hs (k:=?_);intro w hs)|refine Nx.h ?_|fail)
    refine dn (k:=?_)
    refine tk 12 hX (k:=?_)
    refine dt 13 hX (k:=?_)
    repeat' (first|(refine st hs (k:=?_);intro w hs)|refine Nx.h ?_|fail)
    refine dn (k:=?_)
    refine en (k:=?_)
    repeat' (first|refine vs (k:=?_)|refine qRg ?_|refine Nx.h ?_|fail)
    first | refine rt (hq:=?_) | refine rt' (hq:=?_)
    have ho4:Only [b3] w2 _:=hs.onlyF [b3] (by simp [hb5]) (by simp [D0])
    have hN:Nodes w2 [b3]:=Nodes.cons hb4 (Nodes.nil _)
    refine ⟨⟨_,b3 :: (fl' ++ fr'),rfl,⟨b3,_,pl',pr',fl',fr',rfl,rfl,hs.get At.head,hav,hl2.keep ho4 hN (fun k hk hm=>d1 (by obtain rfl:=List.mem_singleton.1 hm;exact hk)),hr'.keep ho4 hN (fun k hk hm=>d2 (by obtain rfl:=List.mem_singleton.1 hm;exact hk))⟩,?_,?_⟩,ho3.step ho4 (fun k hk => .inr (by obtain rfl:=List.mem_singleton.1 hk;exact hnew))⟩
    · simp only [List.nodup_cons,List.nodup_append,List.mem_append]
      exact ⟨fun h=>by rcases h with h | h;exact d1 h;exact d2 h,hnl',hnr',d3⟩
    · intro k hk
      rcases List.mem_cons.1 hk with rfl | hk
      · exact hnew
      · rcases List.mem_append.1 hk with hk | hk
        · have:=hgl' k hk;omega
        · have:=hgr' k hk;omega
theorem rbClone_ret (tb:Nat) (t:RB IT) (F:List Nat) (w0:World) (h:Obj6 w0 tb t F):Ret Tryz.prog 227 #[.pointer (some ⟨tb,0,none⟩)] w0 fun v w'=>(∃ tb' F',v = .pointer (some ⟨tb',0,none⟩)∧Obj6 w' tb' t F'∧∀ k∈F',w0.heap.size≤k)∧Only [] w0 w':=by
  obtain ⟨p,fp,rfl,hT,ht,hnd⟩:=h
  have hs:=(St.nil w0).track hT (by simp)
  refine ret_of_xc Tryz.func227 (by kernel_rfl) rfl Tryz.ntmps227 rfl rfl rfl ?_
  repeat' (first|refine Nx.h ?_|fail)
  refine xc_region ?_ ?_;exact rfl
  repeat' (first|refine vs (k:=?_)|refine Nx.h ?_|fail)
  refine xc_region ?_ ?_;exact rfl
  repeat' (first|refine vs (k:=?_)|refine Nx.h ?_|refine qCf ?_|fail)
  refine xc_region ?_ ?_;exact rfl
  refine vs (k:=?_)
  refine vs (k:=?_)
  refine vs (k:=?_)
  refine al hs (k:=?_);intro b3 w hz hs
  repeat' (first|refine vs (k:=?_)|(refine stA hs (k:=?_);intro w hs)|refine qRg ?_|refine Nx.h ?_|fail)
  have hnew:=hs.new (b3,true) (by simp) rfl
  have ho1:=hs.onlyF [] (by simp [hT]) (by simp [D0])
  have hb3:=hs.get At.head
  have hlt3:=lt_of_block hb3
  (with_reducible apply xs_call);exact rfl;exact rfl;exact copied_ret t p fp _ (ht.keep ho1 (Nodes.nil _) (by simp))
  rintro v w1 ⟨⟨p',fp',rfl,ht',hn',hg'⟩,ho⟩;replace hs:=hs.call0 ho
  have hb4:=hs.get At.head
  have hT4:=hs.get (At.tail At.head)
  have ho2:=hs.onlyF [] (by simp [hT]) (by simp [D0])
  have hbt:b3≠tb:=fun e=>by subst e;have:=lt_of_block hT;have:w0.heap.size≤b3:=hnew;omega
  have d1:b3∉fp':=fun h=>by have:=hg' b3 h;omega
  clear hs
  have hs:=((St.nil w1).track hT4 (by simp)).track hb4 (by simpa using hbt)
  repeat' (first|refine vs (k:=?_)|(refine st hs (k:=?_);intro w hs)|refine qRg ?_|refine Nx.h ?_|fail)
  first | refine rt (hq:=?_) | refine rt' (hq:=?_)
  have ho4:Only [b3] w1 _:=hs.onlyF [b3] (by simp [hT4]) (by simp [D0])
  refine ⟨⟨b3,b3 :: fp',rfl,⟨p',fp',rfl,hs.get At.head,ht'.keepD ho4 (fun k hk hm=>d1 (by obtain rfl:=List.mem_singleton.1 hm;exact hk)),hn'⟩,fun k hk=>?_⟩,ho2.step ho4 (fun k hk => .inr (by obtain rfl:=List.mem_singleton.1 hk;exact hnew))⟩
  · rcases List.mem_cons.1 hk with rfl | hk
    · exact hnew
    · have:=hg' k hk
      have:=ho1.size
      omega
theorem dclone_ret (tb:Nat) (t:RB IT) (F:List Nat) (w0:World) (h:Obj6 w0 tb t F):Ret Tryz.prog 188 #[.agg #[.pointer (some ⟨tb,0,none⟩)]] w0 fun v w'=>(∃ tb' F',v = .agg #[.pointer (some ⟨tb',0,none⟩)]∧Obj6 w' tb' t F'∧∀ k∈F',w0.heap.size≤k)∧Only [] w0 w':=by
  have hs:=St.nil w0
  refine ret_of_xc Tryz.func188 (by kernel_rfl) rfl Tryz.ntmps188 rfl rfl rfl ?_
  refine xc_seq ?_
  refine xc_region ?_ ?_;exact rfl
  refine bx hs (k:=?_);intro b1 w hz hs
  refine al hs (k:=?_);intro b2 w hz2 hs
  repeat' (first|refine vs (k:=?_)|refine qRg ?_|refine Nx.h ?_|fail)
  have ho:=hs.only0 rfl
  have n2:=hs.new (b2,true) (by simp) rfl
  simp only at n2
  have hd:=hs.nd
  simp only [List.map_cons,List.nodup_cons,List.mem_cons,List.map_nil,List.not_mem_nil,or_false] at hd
  (with_reducible apply xs_call);exact rfl;exact rfl;exact rbClone_ret tb t F _ (h.only ho)
  rintro v w1 ⟨⟨tb',F',rfl,h1,h2⟩,ho'⟩;replace hs:=hs.call0 ho'
  have hz:=ho.size
  have ho1:=hs.only0 rfl
  have hb1:=hs.get (At.tail At.head)
  have hb2:=hs.get At.head
  clear hs
  have hs:=((St.nil w1).track hb1 (by simp)).track hb2 (by simpa using hd.1)
  repeat' (first|refine vs (k:=?_)|(refine stA hs (k:=?_);intro w hs)|refine Nx.h ?_|fail)
  first | refine rt (hq:=?_) | refine rt' (hq:=?_)
  have ho2:=hs.onlyF [b2] (by simp [hb1]) (by simp [D0])
  exact ⟨⟨tb',F',rfl,h1.keepD ho2 (fun k hk hm=>by obtain rfl:=List.mem_singleton.1 hm;exact h1.not hb2 (by decide) (by decide) hk),fun k hk=>by have:=h2 k hk;omega⟩,ho1.step ho2 (by simp [n2])⟩
end Go.Proofs.YtalffooghioekaaGreatDoorX.IB
