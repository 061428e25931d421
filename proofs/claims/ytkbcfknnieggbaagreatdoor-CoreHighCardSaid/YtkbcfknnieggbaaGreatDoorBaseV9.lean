/- A part of the proof: what its functions compute. -/
import Derived.Test.YtkbcfknnieggbaaGreatDoorBaseV8
set_option linter.unusedVariables false
set_option linter.unusedSimpArgs false
set_option maxRecDepth 100000
namespace Go.Proofs.YtkbcfknnieggbaaGreatDoorX
open Go Go.RowKit
attribute [local irreducible] XS XC XA thenE blockE retE loopE loopS cutB cutN doneE SE
structure Pr where
  id:Int
  ns:Int
  done:Bool
deriving DecidableEq
abbrev Pr.cells (p:Pr):List Value:=[.int .i64 p.id,.int .u64 p.ns,.bool p.done]
def flatPr (l:List Pr):List Value:=(l.map Pr.cells).flatten
structure Rp where
  g:List Gn
  p:List Pr
def Rp.none:Rp:=⟨[],[]⟩
abbrev SlG (w:World) (v:Value) (l:List Gn) (G:List Nat):Prop:=SlV w 53 13 v l.length (flatG l) G
abbrev SlP (w:World) (v:Value) (l:List Pr) (G:List Nat):Prop:=SlV w 75 3 v l.length (flatPr l) G
abbrev repO (vg vp:Value):Obj := .cells #[vg,vp] 71 (0,0)
def RpAt (w:World) (rb:Nat) (r:Rp) (F:List Nat):Prop:=∃ vg vp Gg Gp,F=rb :: (Gg ++ Gp)∧w.heap[rb]?=some (repO vg vp)∧SlG w vg r.g Gg∧SlP w vp r.p Gp
theorem slv_ne {w:World} {e k n:Nat} {v:Value} {xs:List Value} {G:List Nat} (h:SlV w e k v n xs G) {b:Nat} {cs:Array Value} {ty:Nat} {fz:Nat × Nat} (hb:w.heap[b]?=some (.cells cs ty fz)) (hne:ty≠e):b∉G:=fun hm=>by
  rcases h with ⟨_,_,_,rfl⟩ | ⟨g,cap,cur,_,rfl,_,_,_,_,hg⟩
  · cases hm
  · obtain rfl:=List.mem_singleton.1 hm
    exact blocks_ne hb hg hne rfl
theorem slv_at {w:World} {e k n:Nat} {v:Value} {xs:List Value} {G:List Nat} (h:SlV w e k v n xs G):∀ b∈G,∃ cs,w.heap[b]?=some (.cells cs e (0,0)):=fun b hb=>by
  rcases h with ⟨_,_,_,rfl⟩ | ⟨g,cap,cur,_,rfl,_,_,_,_,hg⟩
  · cases hb
  · obtain rfl:=List.mem_singleton.1 hb;exact ⟨_,hg⟩
theorem slv_form {w:World} {e k n:Nat} {v:Value} {xs:List Value} {G:List Nat} (h:SlV w e k v n xs G):∃ ad cap,v = .slice ad n cap:=by
  rcases h with ⟨rfl,rfl,_⟩ | ⟨g,cap,cur,rfl,_⟩
  · exact ⟨_,_,rfl⟩
  · exact ⟨_,_,rfl⟩
theorem slv_two {w:World} {e k n e' k' n':Nat} {v v':Value} {xs xs':List Value} {G G':List Nat} (h:SlV w e k v n xs G) (h':SlV w e' k' v' n' xs' G') (hne:e≠e'):∀ b∈G,b∉G':=fun b hb=>by
  obtain ⟨cs,hc⟩:=slv_at h b hb
  exact slv_ne h' hc hne
theorem slv_core {w:World} {e k n:Nat} {v:Value} {xs:List Value} {G:List Nat} (h:SlV w e k v n xs G) {cb:Nat} {c:Cs} {F:List Nat} (hc:CAt w cb c F) (ho:okC (.cells #[] e (0,0))=true):∀ b∈G,b∉F:=fun b hb=>by
  obtain ⟨cs,hb'⟩:=slv_at h b hb
  exact hc.not hb' ho
theorem RpAt.keepD {w w':World} {rb:Nat} {r:Rp} {F G:List Nat} (h:RpAt w rb r F) (ho:Only G w w') (hd:∀ k∈F,k∉G):RpAt w' rb r F:=by
  obtain ⟨vg,vp,Gg,Gp,rfl,h1,h2,h3⟩:=h
  exact ⟨vg,vp,Gg,Gp,rfl,ho.block h1 (hd rb (by simp)),h2.keep ho (fun k hk=>hd k (by simp [hk])),h3.keep ho (fun k hk=>hd k (by simp [hk]))⟩
theorem RpAt.only {w w':World} {rb:Nat} {r:Rp} {F:List Nat} (h:RpAt w rb r F) (ho:Only [] w w'):RpAt w' rb r F:=h.keepD ho (by simp)
theorem RpAt.apart {w:World} {rb:Nat} {r:Rp} {F:List Nat} (h:RpAt w rb r F) {cb:Nat} {c:Cs} {Fc:List Nat} (hc:CAt w cb c Fc):∀ k∈F,k∉Fc:=fun k hk=>by
  obtain ⟨vg,vp,Gg,Gp,rfl,h1,h2,h3⟩:=h
  simp only [List.mem_cons,List.mem_append] at hk
  rcases hk with rfl | hk | hk
  · exact hc.not h1 rfl
  · exact slv_core h2 hc rfl k hk
  · exact slv_core h3 hc rfl k hk
theorem RpAt.lt {w:World} {rb:Nat} {r:Rp} {F:List Nat} (h:RpAt w rb r F):∀ k∈F,k < w.heap.size:=fun k hk=>by
  obtain ⟨vg,vp,Gg,Gp,rfl,h1,h2,h3⟩:=h
  simp only [List.mem_cons,List.mem_append] at hk
  rcases hk with rfl | hk | hk
  · exact lt_of_block h1
  · exact h2.lt k hk
  · exact h3.lt k hk
def carryL (x:Int) (l:List Gn):Int:=l.foldl (fun x g=>carryW x g.lag) x
theorem carryL_in {x:Int} (hx:InW x):∀ {l:List Gn},InW (carryL x l):=fun {l}=>by
  induction l generalizing x with
  | nil=>exact hx
  | cons g l ih=>exact ih (carryW_in _ _)
theorem carryL_snoc (x:Int) (l:List Gn) (g:Gn):carryL x (l ++ [g])=carryW (carryL x l) g.lag:=by unfold carryL;rw [List.foldl_append];rfl
def goneC (c:Cs):List Gn:=(flushA c.A).1
def setC (c:Cs):Cs:=⟨(flushA c.A).2,run1 c.A,carryL c.carr (goneC c)⟩
theorem lagR_in {s:Ss} {A:As} (h:Rep s A) {a:RT} (ha:a∈A.l):InW (lagR A a):=by
  have h1:=h.over ha
  unfold lagR
  have:=(h.cen (List.ne_nil_of_mem ha)).a0
  have:=(h.cen (List.ne_nil_of_mem ha)).a1
  rw [← h1.2.2]
  exact div_in h1.2.1 (by omega)
theorem lagA_in {s:Ss} {A:As} (h:Rep s A) (id:Int):InW (lagA A id):=by
  unfold lagA
  cases e:findR A.l id with
  | none=>exact inW0
  | some a=>exact lagR_in h (findR_some e).1
theorem gone_in:∀ {n:Nat} {s:Ss} {A:As},Rep s A→∀ g∈(flushN n A).1,InW g.lag
  | 0,_,_,_,g,hg=>by cases hg
  | n+1,s,A,h,g,hg=>by
    unfold flushN at hg
    cases e:A.l.find? (goesA A) with
    | none=>rw [e] at hg;cases hg
    | some a =>
      rw [e] at hg
      have ha:=List.mem_of_find?_eq_some e
      rcases List.mem_cons.1 hg with rfl | hg
      · exact lagR_in h ha
      · exact gone_in (h.exit (findR_at h.o ha)).2.2 g hg
theorem gone_len:∀ n B,(flushN n B).1.length≤n
  | 0,B=>Nat.le_refl _
  | n+1,B=>by
    unfold flushN
    cases B.l.find? (goesA B) with
    | none=>exact Nat.zero_le _
    | some a=>simp only [List.length_cons];have:=gone_len n (extA B (idR a));omega
theorem flatG_one (g:Gn):∀ u∈g.cells,u.oneCell'=true:=fun u hu=>by
  simp only [List.mem_cons,List.not_mem_nil,or_false] at hu
  rcases hu with rfl | rfl | rfl | rfl | rfl | rfl | rfl | rfl | rfl | rfl | rfl | rfl | rfl <;> rfl
theorem flatG_cells {l:List Gn}:∀ u∈flatG l,u.oneCell'=true:=fun u hu=>by
  obtain ⟨cs,h1,h2⟩:=List.mem_flatten.1 hu
  obtain ⟨g,_,rfl⟩:=List.mem_map.1 h1
  exact flatG_one g u h2
theorem soonId_in {A:As} {s:Ss} (h:Rep s A):In64 (run1 A):=by
  unfold run1 soonId'
  obtain ⟨s',_,k⟩:=h.flush
  cases soonA (flushA A).2 with
  | none=>exact in640
  | some a=>exact a.2.1.2.1
theorem run1_in {w:World} {cb:Nat} {c:Cs} {F:List Nat} (h:CAt w cb c F):In64 (run1 c.A):=by
  obtain ⟨⟨s,hr⟩,_⟩:=h.rep
  exact soonId_in hr
set_option maxHeartbeats 4000000 in
theorem csettle_ret (cb rb:Nat) (c:Cs) (r:Rp) (F Fr:List Nat) (w0:World) (h:CAt w0 cb c F) (hr:RpAt w0 rb r Fr) (hm:r.g.length≤1000000) :
    Ret Tryz.prog 131 #[.pointer (some ⟨cb,0,none⟩),.pointer (some ⟨rb,0,none⟩)] w0 fun v w'=>∃ F' Fr',CAt w' cb (setC c) F'∧RpAt w' rb ⟨r.g ++ goneC c,r.p⟩ Fr'∧(∀ k∈F',k∈F∨w0.heap.size≤k)∧(∀ k∈Fr',k∈Fr∨w0.heap.size≤k)∧Only (F ++ Fr) w0 w':=by
  have hC:=h
  have hap:=hr.apart h
  have hrl:=hr.lt
  obtain ⟨⟨s,hrep⟩,hcin⟩:=h.rep
  have hrun:=run1_in h
  obtain ⟨sb,Fs,rfl,h1,h2,h3⟩:=h
  have hnod:=CAt.nod h1 h2
  have hs:=(St.nil w0).track h1 (by simp)
  refine ret_of_xc Tryz.func131 (by kernel_rfl) rfl Tryz.ntmps131 rfl rfl rfl ?_
  repeat' (first|refine vs (k:=?_)|refine qRg ?_|refine Nx.h ?_|fail)
  have ho:=hs.onlyF [] (by simp [h1]) (by simp [D0])
  have hz:=ho.size
  (with_reducible apply xs_call);exact rfl;exact rfl;exact asettle_ret sb c.A Fs _ (h2.only ho)
  rintro v w1 ⟨sl,rfl,⟨G,hG,hGn⟩,F1,hS1,hF1,ho1⟩
  have hle:=gone_len c.A.l.length c.A
  have hlen:(goneC c).length≤1000000:=by have:=hrep.le;show (flushN _ _).1.length≤_;omega
  have hgi:∀ g∈goneC c,InW g.lag:=gone_in hrep
  have c1:=ho1.block (hs.get At.head) hnod
  have hoA:Only (cb :: Fs) w0 w1:=(ho.weaken (by simp)).step ho1 (fun k hk => .inl (by simp [hk]))
  have hz1:=ho1.size
  have hr1:=hr.keepD hoA hap
  have hG':SlG w1 sl (goneC c) G:=hG
  have eset:setC c=⟨(flushA c.A).2,run1 c.A,carryL c.carr (goneC c)⟩:=rfl
  generalize hgo:goneC c=go at *
  have hD:LsAt w1 53 13 sl (go.map Gn.cells):=hG'.ls rfl (by simp) (fun x hx=>by obtain ⟨g,_,rfl⟩:=List.mem_map.1 hx;rfl)
  obtain ⟨ad,cap,rfl,hD⟩:=hD
  rw [List.length_map] at *
  clear hs
  have hs:=(St.nil w1).track c1 (by simp)
  repeat' (first|refine vs (k:=?_)|refine qRg ?_|refine Nx.h ?_|fail)
  refine xc_cutB (fun (_:Unit)=>[(0,.pointer (some ⟨cb,0,none⟩)),(1,.pointer (some ⟨rb,0,none⟩)),(4,.slice ad go.length cap),(5,.int .i64 (run1 c.A))]) (fun _ w=>w.heap[cb]?=some (coreO sb c.run (carryL c.carr go))∧Only [cb] w1 w) ?_ ?_
  · refine xc_loopS (fun (i:Nat)=>[(0,.pointer (some ⟨cb,0,none⟩)),(1,.pointer (some ⟨rb,0,none⟩)),(4,.slice ad go.length cap),(5,.int .i64 (run1 c.A)),(16,.slice ad go.length cap),(17,.int .i64 (go.length:Nat)),(18,.int .i64 (i:Nat))])
      (fun i w=>i≤go.length∧w.heap[cb]?=some (coreO sb c.run (carryL c.carr (go.take i)))∧Only [cb] w1 w) (fun i=>go.length - i) 0 (by (repeat (first | exact agree_nil | (apply agree_cons;exact rfl)))) ⟨Nat.zero_le _,hs.get At.head,hs.onlyF [cb] (by simp) (by simp [D0])⟩ fun i env wl ⟨hi,hcb,ho0⟩=>?_
    clear hs
    have hs:=(St.nil wl).track hcb (by simp)
    repeat' (first|refine vs (k:=?_)|refine qRg ?_|refine Nx.h ?_|(refine xc_if rfl (fun hc=>?_) (fun hc=>?_))|fail)
    · have hlt:i < go.length:=by omega
      obtain ⟨b,off,cs,fz,rfl,_,hb,hcs⟩:=hD (fun h=>by have:=congrArg List.length h;rw [List.length_map,List.length_nil] at this;omega)
      have hpk:=hcs i (Gn.cells go[i]) (by rw [List.getElem?_map,List.getElem?_eq_getElem hlt];rfl)
      have ei:=nx64 (m:=go.length) hlt (by omega)
      have et:carryL c.carr (go.take (i+1))=carryW (carryL c.carr (go.take i)) go[i].lag:=by rw [take_next hlt,carryL_snoc]
      have hq:=hgi go[i] (List.getElem_mem hlt)
      have hin:InW (carryL c.carr (go.take i)):=carryL_in hcin
      generalize go[i]=q at *
      have hbl:=ho0.block hb (by simp;exact blocks_ne hb c1 (by decide))
      refine ix (h0:=(by omega)) (h1:=(by omega)) (k:=?_)
      refine lhK hbl hpk (k:=?_)
      repeat' (first|refine vs (k:=?_)|(refine stA hs (k:=?_);intro w hs)|(refine al hs (k:=?_);intro b w hz hs)|refine qRg ?_|refine Nx.h ?_|fail)
      (with_reducible apply xs_call);exact rfl;exact rfl;exact carry_ret cb sb c.run _ q.lag _ (hs.get (At.tail At.head)) hin hq
      rintro v w4 ⟨hc4,ho4⟩
      have hoB:=hs.onlyF [cb] (by simp) (by simp [D0])
      clear hs
      have hs:=St.nil w4
      repeat' (first|refine vs (k:=?_)|refine qRg ?_|refine Nx.h ?_|fail)
      exact loopS_next (i+1) (by show go.length - (i+1) < go.length - i;omega) (by (repeat (first | exact agree_nil | (apply agree_cons;first | exact rfl | exact congrArg (Value.int .i64) ei)))) ⟨by show i+1≤_;omega,by simp only [et];exact (hs.only0 rfl).block hc4 (by simp),((ho0.step hoB (fun k hk => .inl hk)).step ho4 (fun k hk => .inl hk)).step (hs.only0 rfl) (by simp)⟩
    · have e:i=go.length:=by omega
      subst e
      rw [List.take_length] at hcb
      exact cutB_exit () (by (repeat (first | exact agree_nil | (apply agree_cons;exact rfl)))) ⟨hcb,ho0⟩
  · rintro _ env w2 ⟨hcb,ho2⟩
    clear hs
    have hz2:=ho2.size
    have hcl:=lt_of_block c1
    have hcr:∀ k∈Fr,k∉[cb]:=fun k hk hm=>hap k hk (by obtain rfl:=List.mem_singleton.1 hm;exact List.mem_cons_self)
    have hr2:=hr1.keepD ho2 hcr
    have hG2:=hG'.keep ho2 (fun k hk hm=>by obtain rfl:=List.mem_singleton.1 hm;exact slv_ne hG' c1 (by decide) hk)
    have hS2:=hS1.keepD ho2 (fun k hk hm=>by obtain rfl:=List.mem_singleton.1 hm;exact CAt.nod c1 hS1 hk)
    obtain ⟨vg,vp,Gg,Gp,rfl,r1,r2,r3⟩:=hr2
    have hrb:rb≠cb:=blocks_ne r1 hcb (by decide)
    have hs:=((St.nil w2).track hcb (by simp)).track r1 (by simpa using hrb)
    repeat' (first|refine vs (k:=?_)|refine qRg ?_|refine Nx.h ?_|fail)
    refine xs_appendL tabOk rfl rfl rfl rfl rfl rfl flatG_cells r2 hG2 (by omega) (by omega) ?_
    intro v3 w3 ⟨G3,hG3,hG3n⟩ ho3
    obtain ⟨ad3,cp3,rfl⟩:=slv_form hG3
    have n1:=slv_ne r2 hcb (by decide)
    have n2:=slv_ne r2 r1 (by decide)
    have k1:=ho3.block hcb n1
    have k2:=ho3.block r1 n2
    have hP3:=r3.keep ho3 (slv_two r3 r2 (by decide))
    have hz3:=ho3.size
    have hS3:=hS2.keepD ho3 (fun k hk hm=>by
      obtain ⟨cs,hc⟩:=slv_at r2 k hm
      exact hS2.not hc rfl hk)
    clear hs
    have hs:=((St.nil w3).track k1 (by simp)).track k2 (by simpa using hrb)
    repeat' (first|refine vs (k:=?_)|(refine st hs (k:=?_);intro w hs)|refine qRg ?_|refine Nx.h ?_|fail)
    first | refine rt' (vs:=[]) (hr:=resOk_nil) (hq:=?_) | refine rt (vs:=[]) (hr:=resOk_nil) (hq:=?_)
    have ho4:Only [cb,rb] w3 _:=hs.onlyF [cb,rb] (by simp) (by simp [D0])
    have f1:=hs.get At.head
    have f2:=hs.get (At.tail At.head)
    have hG3':SlG w3 (.slice ad3 (r.g.length+go.length) cp3) (r.g ++ go) G3:=by unfold SlG;rw [List.length_append,show flatG (r.g ++ go)=flatG r.g ++ flatG go by simp [flatG]];exact hG3
    have d1:∀ k∈G3,k∉[cb,rb]:=fun k hk hm=>by
      simp only [List.mem_cons,List.not_mem_nil,or_false] at hm
      rcases hm with rfl | rfl
      · exact slv_ne hG3' k1 (by decide) hk
      · exact slv_ne hG3' k2 (by decide) hk
    have d2:∀ k∈Gp,k∉[cb,rb]:=fun k hk hm=>by
      simp only [List.mem_cons,List.not_mem_nil,or_false] at hm
      rcases hm with rfl | rfl
      · exact slv_ne hP3 k1 (by decide) hk
      · exact slv_ne hP3 k2 (by decide) hk
    have d3:∀ k∈F1,k∉[cb,rb]:=fun k hk hm=>by
      simp only [List.mem_cons,List.not_mem_nil,or_false] at hm
      rcases hm with rfl | rfl
      · exact CAt.nod k1 hS3 hk
      · exact hS3.not k2 rfl hk
    have hsz:=hoA.size
    rw [eset]
    refine ⟨cb :: F1,rb :: (G3 ++ Gp),⟨sb,F1,rfl,f2,hS3.keepD ho4 d3,carryL_in hcin,hrun⟩,⟨_,vp,G3,Gp,rfl,f1,hG3'.keep ho4 d1,hP3.keep ho4 d2⟩,fun k hk=>?_,fun k hk=>?_,?_⟩
    · rcases List.mem_cons.1 hk with rfl | hk
      · simp
      · rcases hF1 k hk with h | h
        · simp [h]
        · exact .inr (by omega)
    · simp only [List.mem_cons,List.mem_append] at hk ⊢
      rcases hk with rfl | hk | hk
      · simp
      · rcases hG3n k hk with h | h
        · simp [h]
        · exact .inr (by omega)
      · simp [hk]
    · refine (((hoA.weaken (by simp;intro k hk;simp [hk])).step ho2 (fun k hk => .inl (by simp at hk;simp [hk]))).step ho3 (fun k hk => .inl (by simp [hk]))).step ho4 (fun k hk => .inl (by simp at hk;simp;rcases hk with h | h <;> simp [h]))
end Go.Proofs.YtkbcfknnieggbaaGreatDoorX

namespace Go.Proofs.YtkbcfknnieggbaaGreatDoorX
open Go Go.RowKit
attribute [local irreducible] XS XC XA thenE blockE retE loopE loopS cutB cutN doneE SE
def RvAt (w:World) (v:Value) (r:Rp):Prop:=∃ vg vp Gg Gp,v = .agg #[vg,vp]∧SlG w vg r.g Gg∧SlP w vp r.p Gp
def DoAt (w0 w:World) (fid:Nat) (caps:List Value) (E:List Nat) (Qx:World→Prop) (c:Cs) (e:Int) (c1:Cs) (r1:Rp):Prop :=
  ∀ cb rb F,CAt w cb c F→RpAt w rb .none [rb]→(∀ k∈F,w0.heap.size≤k)→w0.heap.size≤rb →
    Ret Tryz.prog fid (.pointer (some ⟨cb,0,none⟩) :: .pointer (some ⟨rb,0,none⟩) :: caps).toArray w fun v w'=>v = .int .i64 e∧Qx w' ∧
      (e=0→∃ F2 Fr,CAt w' cb c1 F2∧RpAt w' rb r1 Fr∧(∀ k∈F2,k∈F∨w.heap.size≤k)∧(∀ k∈Fr,k=rb∨w.heap.size≤k))∧Only (rb :: F ++ E) w w'
def tryC (c:Cs) (e:Int) (c1:Cs):Cs:=if e=0 then setC c1 else c
def tryR (e:Int) (c1:Cs) (r1:Rp):Rp:=if e=0 then ⟨r1.g ++ goneC c1,r1.p⟩ else .none
set_option maxHeartbeats 8000000 in
theorem try_ret (cb:Nat) (c:Cs) (F:List Nat) (w0:World) (h:CAt w0 cb c F) (fid:Nat) (caps:List Value) (E:List Nat) (Qx:World→Prop) (e:Int) (c1:Cs) (r1:Rp)
    (hQ:∀ w w' G,Qx w→Only G w w'→(∀ k∈E,k∉G)→Qx w') (hE:∀ k∈E,k∉F∧k < w0.heap.size) (hr:r1.g.length≤1000000) (hdo:∀ w,Only [] w0 w→DoAt w0 w fid caps E Qx c e c1 r1) :
    Ret Tryz.prog 77 #[.pointer (some ⟨cb,0,none⟩),.func (.func fid) #[] caps.toArray] w0 fun v w'=>∃ rv,v = .tuple #[rv,.int .i64 e]∧Qx w'∧RvAt w' rv (tryR e c1 r1) ∧
      (∃ F',CAt w' cb (tryC c e c1) F'∧∀ k∈F',k∈F∨w0.heap.size≤k)∧Only (cb :: E) w0 w':=by
  have hC:=h
  obtain ⟨sb,Fs,rfl,h1,h2,h3⟩:=h
  have hs:=(St.nil w0).track h1 (by simp)
  have lcb:=lt_of_block h1
  refine ret_of_xc Tryz.func77 (by kernel_rfl) rfl Tryz.ntmps77 rfl rfl rfl ?_
  refine xc_seq ?_
  refine xc_region ?_ ?_;exact rfl
  refine al hs (k:=?_);intro b4 w hz hs
  have g4:=hs.new (b4,true) (by simp) rfl
  simp only at g4
  repeat' (first|refine vs (k:=?_)|(refine al hs (k:=?_);intro b w hz hs)|refine qRg ?_|refine Nx.h ?_|refine qCf ?_|fail)
  have gb:=hs.new _ List.mem_cons_self rfl
  simp only at gb
  have ho:=hs.onlyF [] (by simp [h1]) (by simp [D0])
  (with_reducible apply xs_call);exact rfl;exact rfl;exact cclone_ret cb c _ _ (hC.only ho)
  rintro v w1 ⟨⟨cb',F',rfl,hC1,hF'⟩,ho1⟩;replace hs:=hs.call0 ho1
  have hz1:=ho.size
  have hoA:=hs.onlyF [] (by simp [h1]) (by simp [D0])
  have k1:=hs.get At.head
  have k2:=hs.get (At.tail At.head)
  have k3:=hs.get (At.tail (At.tail At.head))
  have n4b:b≠b4:=by have:=hs.nd;simp only [List.map_cons,List.nodup_cons,List.mem_cons,not_or] at this;exact this.1.1
  have hF0:∀ k∈F',w0.heap.size≤k:=fun k hk=>by have:=hF' k hk;omega
  clear hs
  have hs:=(((St.nil w1).track k3 (by simp)).track k2 (by simp;omega)).track k1 (by simp [n4b];omega)
  repeat' (first|refine vs (k:=?_)|refine qRg ?_|refine Nx.h ?_|fail)
  have ho2:=hs.onlyF [] (by simp [k1,k2,k3]) (by simp [D0])
  have hC2:=hC1.only ho2
  have kb:=hs.get At.head
  have hR:RpAt _ b .none [b]:=⟨_,_,[],[],rfl,kb,.inl ⟨rfl,rfl,rfl,rfl⟩,.inl ⟨rfl,rfl,rfl,rfl⟩⟩
  have hz2:=hoA.size
  have hz3:=ho2.size
  (with_reducible apply xs_call);exact rfl;exact rfl;exact hdo _ (hoA.trans ho2) cb' b F' hC2 hR hF0 gb
  rintro v w3 ⟨rfl,hX,hres,ho3⟩
  have m1:cb∉b :: F' ++ E:=fun hm=>by
    simp only [List.cons_append,List.mem_cons,List.mem_append] at hm
    rcases hm with rfl | hm | hm
    · omega
    · have:=hF0 cb hm;omega
    · exact (hE cb hm).1 (by simp)
  have m2:b4∉b :: F' ++ E:=fun hm=>by
    simp only [List.cons_append,List.mem_cons,List.mem_append] at hm
    rcases hm with rfl | hm | hm
    · exact n4b rfl
    · exact hC2.not (hs.get (At.tail At.head)) rfl hm
    · have:=(hE b4 hm).2;omega
  have j2:=ho3.block (hs.get (At.tail At.head)) m2
  have j3:=ho3.block (hs.get (At.tail (At.tail At.head))) m1
  have hoB:Only (cb :: E) w0 w3:=((hoA.trans ho2).weaken (by simp)).step ho3 (fun k hk=>by
    simp only [List.cons_append,List.mem_cons,List.mem_append] at hk ⊢
    rcases hk with rfl | hk | hk
    · exact .inr gb
    · exact .inr (hF0 k hk)
    · exact .inl (.inr hk))
  have hzB:=hoB.size
  clear hs
  have hs:=((St.nil w3).track j3 (by simp)).track j2 (by simp;omega)
  by_cases he:e=0
  · subst he
    obtain ⟨F2,Fr,hC3,hR3,hF2,hFr⟩:=hres rfl
    repeat' (first|refine vs (k:=?_)|refine qRg ?_|refine Nx.h ?_|refine qCf ?_|fail)
    have ho4:=hs.onlyF [] (by simp [j2,j3]) (by simp [D0])
    have hC4:=hC3.only ho4
    have hR4:=hR3.only ho4
    have hz4:=ho4.size
    have hF2':∀ k∈F2,w0.heap.size≤k:=fun k hk=>by
      rcases hF2 k hk with h | h
      · exact hF0 k h
      · omega
    have hFr':∀ k∈Fr,w0.heap.size≤k:=fun k hk=>by
      rcases hFr k hk with rfl | h
      · exact gb
      · omega
    have hm4:b4∉F2 ++ Fr:=fun hm=>by
      rcases List.mem_append.1 hm with h | h
      · exact hC4.not (hs.get At.head) rfl h
      · rcases hFr b4 h with h | h
        · exact n4b h.symm
        · have:=lt_of_block k2;omega
    have hmc:cb∉F2 ++ Fr:=fun hm=>by
      rcases List.mem_append.1 hm with h | h
      · have:=hF2' cb h;omega
      · have:=hFr' cb h;omega
    (with_reducible apply xs_call);exact rfl;exact rfl;exact csettle_ret cb' b c1 r1 F2 Fr _ hC4 hR4 hr
    rintro v w5 ⟨F5,Fr5,hC5,hR5,hF5,hFr5,ho5⟩
    have i2:=ho5.block (hs.get At.head) hm4
    have i3:=ho5.block (hs.get (At.tail At.head)) hmc
    have hoC:Only (cb :: E) w0 w5:=(hoB.step ho4 (by simp)).step ho5 (fun k hk=>by
      rcases List.mem_append.1 hk with h | h
      · exact .inr (hF2' k h)
      · exact .inr (hFr' k h))
    have hX5:=hQ _ _ _ (hQ _ _ _ hX ho4 (by simp)) ho5 (fun k hk hm=>by
      have:=(hE k hk).2
      rcases List.mem_append.1 hm with h | h
      · have:=hF2' k h;omega
      · have:=hFr' k h;omega)
    have hF5':∀ k∈F5,w0.heap.size≤k:=fun k hk=>by
      rcases hF5 k hk with h | h
      · exact hF2' k h
      · omega
    have hap:=hR5.apart hC5
    obtain ⟨sb5,Fs5,rfl,q1,q2,q3,q4⟩:=hC5
    obtain ⟨vg,vp,Gg,Gp,rfl,p1,p2,p3⟩:=hR5
    obtain ⟨ag,cg,rfl⟩:=slv_form p2
    obtain ⟨ap,cp,rfl⟩:=slv_form p3
    have e1:b≠cb':=blocks_ne p1 q1 (by decide)
    have e2:b4≠cb':=blocks_ne i2 q1 (by decide)
    have e3:cb≠cb':=by have:=hF5' cb' (by simp);omega
    have e4:b4≠cb:=by omega
    have e5:b≠cb:=by omega
    clear hs
    have hs:=((((St.nil w5).track q1 (by simp)).track i3 (by simpa using e3)).track i2 (by simp [e2,e4])).track p1 (by simp [e1,e5,n4b])
    repeat' (first|refine vs (k:=?_)|(refine stA hs (k:=?_);intro w hs)|refine qRg ?_|refine Nx.h ?_|fail)
    first | refine rt (hq:=?_) | refine rt' (hq:=?_)
    have ho6:Only [cb,b4] w5 _:=hs.onlyF [cb,b4] (by simp [q1,p1]) (by simp [D0])
    have f1:=hs.get (At.tail (At.tail At.head))
    have d1:∀ k∈Gg,k∉[cb,b4]:=fun k hk hm=>by
      simp only [List.mem_cons,List.not_mem_nil,or_false] at hm
      rcases hm with rfl | rfl
      · exact slv_ne p2 i3 (by decide) hk
      · exact slv_ne p2 i2 (by decide) hk
    have d2:∀ k∈Gp,k∉[cb,b4]:=fun k hk hm=>by
      simp only [List.mem_cons,List.not_mem_nil,or_false] at hm
      rcases hm with rfl | rfl
      · exact slv_ne p3 i3 (by decide) hk
      · exact slv_ne p3 i2 (by decide) hk
    have d3:∀ k∈Fs5,k∉[cb,b4]:=fun k hk hm=>by
      simp only [List.mem_cons,List.not_mem_nil,or_false] at hm
      rcases hm with rfl | rfl
      · exact q2.not i3 rfl hk
      · exact q2.not i2 rfl hk
    refine ⟨_,rfl,hQ _ _ _ hX5 ho6 (fun k hk hm=>?_),⟨_,_,Gg,Gp,rfl,p2.keep ho6 d1,p3.keep ho6 d2⟩,⟨cb :: Fs5,⟨sb5,Fs5,rfl,f1,q2.keepD ho6 d3,q3,q4⟩,fun k hk=>?_⟩,hoC.step ho6 (fun k hk=>?_)⟩
    · have:=hE k hk
      simp only [List.mem_cons,List.not_mem_nil,or_false] at hm
      rcases hm with rfl | rfl
      · exact this.1 (by simp)
      · omega
    · rcases List.mem_cons.1 hk with rfl | hk
      · simp
      · exact .inr (hF5' k (by simp [hk]))
    · simp only [List.mem_cons,List.not_mem_nil,or_false] at hk
      rcases hk with rfl | rfl
      · simp
      · exact .inr (by omega)
  · rw [show tryR e c1 r1 = .none from if_neg he,show tryC c e c1=c from if_neg he]
    repeat' (first|refine vs (k:=?_)|(refine stA hs (k:=?_);intro w hs)|refine qRg ?_|refine Nx.h ?_|(refine xc_cond rfl (fun hc=>?_) (fun hc=>?_))|fail)
    · first | refine rt (hq:=?_) | refine rt' (hq:=?_)
      have ho6:Only [b4] w3 _:=hs.onlyF [b4] (by simp [j3]) (by simp [D0])
      refine ⟨_,rfl,hQ _ _ _ hX ho6 (fun k hk hm=>by have:=(hE k hk).2;obtain rfl:=List.mem_singleton.1 hm;omega),⟨_,_,[],[],rfl,.inl ⟨rfl,rfl,rfl,rfl⟩,.inl ⟨rfl,rfl,rfl,rfl⟩⟩,⟨cb :: Fs,?_,fun k hk => .inl hk⟩,hoB.step ho6 (fun k hk => .inr (by obtain rfl:=List.mem_singleton.1 hk;exact g4))⟩
      have hlt:=hC.lt
      refine ((hC.only (hoA.trans ho2)).keepD ho3 (fun k hk hm=>?_)).keepD ho6 (fun k hk hm=>by have:=hlt k hk;obtain rfl:=List.mem_singleton.1 hm;omega)
      have:=hlt k hk
      simp only [List.cons_append,List.mem_cons,List.mem_append] at hm
      rcases hm with rfl | hm | hm
      · omega
      · have:=hF0 k hm;omega
      · exact (hE k hm).1 hk
    · exact absurd (by simpa using hc) he
end Go.Proofs.YtkbcfknnieggbaaGreatDoorX

namespace Go.Proofs.YtkbcfknnieggbaaGreatDoorX
open Go Go.RowKit
attribute [local irreducible] XS XC XA thenE blockE retE loopE loopS cutB cutN doneE SE
def tyNe (ty:Nat):Obj→Bool
  | .cells _ t _=>!(Nat.beq t ty)
  | _=>true
theorem St.trackT {wb w:World} {D:Ctx} {H:List Ent} (h:St wb D H w) {b:Nat} {cs:Array Value} {ty:Nat} {fz:Nat × Nat} (hb:w.heap[b]?=some (.cells cs ty fz)) (hn:(H.all fun e=>tyNe ty e.2.1)=true:=by rfl) (hr:b∉D.ro.map (·.1):=by simp [D0]):St wb D ((b,.cells cs ty fz,false) :: H) w :=
  h.track hb (fun hm=>by
    obtain ⟨e,he,rfl⟩:=List.mem_map.1 hm
    have h1:=List.all_eq_true.1 hn e he
    have h2:=h.at_ e he
    rw [hb] at h2
    rw [← Option.some.inj h2] at h1
    simp [tyNe] at h1) hr
theorem plM_nil {m:Mn} (h1:m.a=0) (h2:m.w=0) (h3:m.n=0) (c q lag:Int):plM m c q lag=plM .zero c q lag:=by
  have r1:m.right=true:=mright_iff.2 (.inl ⟨h3,h2,h1⟩)
  have r2:Mn.zero.right=true:=by decide
  unfold plM
  rw [r1,r2,h3,show Mn.zero.n=0 from rfl,if_pos (rfl:(0:Int)=0),if_pos (rfl:(0:Int)=0)]
theorem SetAt.mean {w:World} {sb:Nat} {A:As} {F:List Nat} (h:SetAt w sb A F):∃ qb mb m tb mb' cq,w.heap[sb]?=some (setO qb mb)∧w.heap[qb]?=some (queueO m tb mb' cq)∧m.In∧QuAt w qb A∧(∀ c q lag,plM m c q lag=plM (mA A) c q lag)∧(A.l≠[]→m=mA A)∧sb∈F∧qb∈F:=by
  obtain ⟨s,⟨qb,mb,Fq,rfl,h1,h2,h3,h4⟩,hr⟩:=h
  have h3':=h3
  obtain ⟨tb,mb',Ft,rfl,k1,k2,k3,k4,k5⟩:=h3
  have hm:=hr.meanFor
  unfold MeanFor at hm
  refine ⟨qb,mb,s.q.m,tb,mb',s.q.c,h1,k1,k4,⟨s,_,h3',hr⟩,fun c q lag=>?_,fun e=>by rwa [if_neg e] at hm,by simp,by simp⟩
  by_cases e:A.l=[]
  · rw [if_pos e] at hm
    rw [plM_nil hm.1 hm.2.1 hm.2.2]
    unfold mA its;rw [e];rfl
  · rw [if_neg e] at hm;rw [hm]
theorem cweight_ret (q:Int) (w0:World):Ret Tryz.prog 107 #[.int .u32 q] w0 fun v w'=>v = .bool (mayW q)∧Only [] w0 w':=by
  have hs:=St.nil w0
  refine ret_of_xc Tryz.func107 (by kernel_rfl) rfl Tryz.ntmps107 rfl rfl rfl ?_
  repeat' (first|refine vs (k:=?_)|refine qRg ?_|refine Nx.h ?_|fail)
  (with_reducible apply xs_call);exact rfl;exact rfl;exact pright_ret ⟨0,0,q⟩ _
  rw [show (⟨0,0,q⟩:Pt).right=mayW q by unfold Pt.right mayW;by_cases h:1≤q <;> simp [h] <;> omega]
  rintro v w' ⟨rfl,ho⟩;replace hs:=hs.call0 ho;repeat' (first|refine vs (k:=?_)|refine Nx.h ?_|fail)
  first | refine rt (hq:=?_) | refine rt' (hq:=?_)
  exact ⟨rfl,hs.only0 rfl⟩
theorem cslice_ret (n:Int) (w0:World):Ret Tryz.prog 108 #[.int .u64 n] w0 fun v w'=>v = .bool (mayN n)∧Only [] w0 w':=by
  have hs:=St.nil w0
  refine ret_of_xc Tryz.func108 (by kernel_rfl) rfl Tryz.ntmps108 rfl rfl rfl ?_
  repeat' (first|refine vs (k:=?_)|refine ps (k:=?_)|refine qRg ?_|refine Nx.h ?_|((with_reducible apply xs_guard);exact rfl;exact rfl;intro c hc;(fail_if_success have:true=c:=hc);(fail_if_success have:false=c:=hc);cases c)|fail)
  all_goals (first | refine rt (hq:=?_) | refine rt' (hq:=?_))
  all_goals refine ⟨?_,hs.only0 rfl⟩
  all_goals clear hs
  · have h1:decide (1≤n)=false:=hc
    unfold mayN;rw [h1];rfl
  · have h1:decide (1≤n)=true:=hc
    unfold mayN;rw [h1];rfl
def toRT (r:Rq):RT:=if h:r.In then ⟨r,h⟩ else ⟨.zero,by decide⟩
theorem toRT_eq {r:Rq} (h:r.In):(toRT r).1=r:=by unfold toRT;rw [dif_pos h]
def placeA (A:As) (q lag:Int):Option Pt:=plM (mA A) (nowA A) q lag
def joinOk (c:Cs) (id q ns lag:Int):Option RT:=(placeA c.A q lag).bind fun p=>(newR p id ns).map toRT
theorem plM_in {m:Mn} {c q lag:Int} {p:Pt} (hc:U64 c) (hq:U32 q) (h:plM m c q lag=some p):p.In:=by
  unfold plM at h
  split at h
  · split at h
    · cases h;exact ⟨hc,(show U32 0 by decide),hq⟩
    · split at h
      · exact (at_some h).1
      · cases h
  · cases h
theorem nowA_in {s:Ss} {A:As} (h:Rep s A) (hc:U64 s.q.c):U64 (nowA A):=by
  rw [← h.now];exact nowQ_in hc
theorem newR_in {p:Pt} {id n:Int} {r:Rq} (hp:p.In) (hi:In64 id) (hn:U64 n) (h:newR p id n=some r):r.In∧r.right=true:=setR_in (⟨⟨hp,hi,(by decide:Pt.zero.In)⟩,hn,hn⟩:Rq.In ⟨⟨p,id,.zero⟩,n,n,false⟩) h
theorem QuAt.nowU {w:World} {qb:Nat} {A:As} (h:QuAt w qb A):U64 (nowA A):=by
  obtain ⟨s,F,⟨tb,mb,Ft,rfl,k1,k2,k3,k4,k5⟩,hr⟩:=h
  exact nowA_in hr k5
def joinC (c:Cs) (id q ns lag:Int):Int × Cs :=
  if id < 1∨mayW q=false∨mayN ns=false then (2,c) else if (findR c.A.l id).isSome then (13,c) else if c.A.l.length=32 then (7,c) else
    match joinOk c id q ns lag with
    | none=>(8,c)
    | some r=>if entE c.A r=0 then (0,⟨entA c.A r,c.run,carryW c.carr (lagA (entA c.A r) id)⟩) else (entE c.A r,c)
set_option maxHeartbeats 8000000 in
theorem join1_ret (b2 b3 b4 b5:Nat) (c:Cs) (id q ns lag:Int) (wb w0:World) (hid:In64 id) (hq:U32 q) (hns:U64 ns) (hlag:In64 lag)
    (B2:w0.heap[b2]?=some (.cells #[.int .i64 id] 3 (0,0))) (B3:w0.heap[b3]?=some (.cells #[.int .u32 q] 45 (0,0))) (B4:w0.heap[b4]?=some (.cells #[.int .u64 ns] 22 (0,0))) (B5:w0.heap[b5]?=some (.cells #[.int .i64 lag] 2 (0,0))) :
    DoAt wb w0 106 [.pointer (some ⟨b2,0,none⟩),.pointer (some ⟨b3,0,none⟩),.pointer (some ⟨b4,0,none⟩),.pointer (some ⟨b5,0,none⟩)] [] (fun _=>True) c (joinC c id q ns lag).1 (joinC c id q ns lag).2 .none:=by
  intro cb rb F hC hR hFn hrb
  have hC0:=hC
  have hR0:=hR
  obtain ⟨sb,Fs,rfl,h1,hS,h3,h4⟩:=hC
  obtain ⟨qb,mb,m,tb,mb',cq,g1,g2,gin,gQ,gpl,gm,_,_⟩:=hS.mean
  have hs:=(((((((St.nil w0).trackT h1).trackT g1).trackT g2).trackT B2).trackT B3).trackT B4).trackT B5
  refine ret_of_xc Tryz.func106 (by kernel_rfl) rfl Tryz.ntmps106 rfl rfl rfl ?_
  repeat' (first|refine vs (k:=?_)|refine qRg ?_|refine Nx.h ?_|fail)
  refine dr [] hs (k:=?_);intro hX w hs
  refine tk 0 hX (k:=?_)
  refine tk 1 hX (k:=?_)
  refine tk 2 hX (k:=?_)
  refine tk 3 hX (k:=?_)
  refine tk 4 hX (k:=?_)
  refine pd0 9 9 hs (k:=?_);intro f X w hp;have hs:=hp.st
  apply xa_pend 5 9 (f:=f) (X:=X) hX hp;exact rfl;exact rfl;(apply makes_alloc tabOk;exact rfl);kernel_rfl;kernel_rfl;kernel_rfl;kernel_rfl;(intro X Y;(repeat (first | exact pgg_base | refine pgg_step ?_ (by exact rfl))));(intro w' hs;first|exact se_hold hs.hold|exact se_hold hs.hold.tail|exact se_done rfl);intro f X w hp;have hs:=hp.st
  have ho:=hs.onlyF [] (by simp [h1,g1,g2,B2,B3,B4,B5]) (by simp [D0])
  (with_reducible apply xs_call);exact rfl;exact rfl;exact areq_ret sb c.A Fs id _ (hS.only ho) hid
  rintro v w' ⟨rfl,ho⟩;replace hp:=hp.only ho;replace hs:=hp.st;repeat' (first|refine Nx.h ?_|fail)
  refine dn (k:=?_)
  refine tk 6 hX (hc:=by cases f <;> kernel_rfl) (k:=?_)
  refine tk 7 hX (hc:=by cases f <;> kernel_rfl) (k:=?_)
  refine tk 8 hX (hc:=by cases f <;> kernel_rfl) (k:=?_)
  apply xa_pendE 9 (f:=f) (X:=X) hX hp;exact rfl;(apply makes_alloc tabOk;exact rfl);kernel_rfl;kernel_rfl;(intro X Y;(repeat (first | exact pgg_base | refine pgg_step ?_ (by exact rfl))));(intro w' hs;first|exact se_hold hs.hold|exact se_hold hs.hold.tail|exact se_done rfl);intro b w hI hs
  refine dt 10 hX (k:=?_)
  repeat' (first|(refine stA hs (k:=?_);intro w hs)|refine Nx.h ?_|fail)
  refine dn (k:=?_)
  refine tk 11 hX (k:=?_)
  refine en (k:=?_)
  repeat' (first|refine Nx.h ?_|fail)
  refine xc_region ?_ ?_;exact rfl
  have eJ:joinC c id q ns lag=if id < 1∨mayW q=false∨mayN ns=false then (2,c) else if (findR c.A.l id).isSome then (13,c) else if c.A.l.length=32 then (7,c) else
    match joinOk c id q ns lag with
    | none=>(8,c)
    | some r=>if entE c.A r=0 then (0,⟨entA c.A r,c.run,carryW c.carr (lagA (entA c.A r) id)⟩) else (entE c.A r,c):=rfl
  generalize joinC c id q ns lag=J at *
  have bad:∀ (n:Int) (w':World),J=(n,c)→n≠0→Only [] w0 w'→Value.int .i64 n = .int .i64 J.1∧True∧(J.1=0→∃ F2 Fr,CAt w' cb J.2 F2∧RpAt w' rb .none Fr∧(∀ k∈F2,k∈cb :: Fs∨w0.heap.size≤k)∧∀ k∈Fr,k=rb∨w0.heap.size≤k)∧Only (rb :: (cb :: Fs) ++ []) w0 w':=fun n w' e hn ho=>by
    subst e;exact ⟨rfl,trivial,fun h=>absurd h hn,ho.weaken (by simp)⟩
  refine vs (k:=?_)
  refine vs (k:=?_)
  by_cases c1:id < 1
  · rw [if_pos (.inl c1)] at eJ
    rw [decide_eq_true c1]
    repeat' (first|refine vs (k:=?_)|refine ps (k:=?_)|refine qRg ?_|refine Nx.h ?_|refine qCt ?_|fail)
    first | refine rt (hq:=?_) | refine rt' (hq:=?_)
    exact bad 2 _ eJ (by decide) (hs.onlyF [] (by simp [h1,g1,g2,B2,B3,B4,B5]) (by simp [D0]))
  rw [decide_eq_false c1]
  repeat' (first|refine vs (k:=?_)|fail)
  (with_reducible apply xs_call);exact rfl;exact rfl;exact cweight_ret q _
  cases c2:mayW q
  · rw [if_pos (.inr (.inl c2))] at eJ
    rintro v w' ⟨rfl,ho⟩;replace hs:=hs.call0 ho;repeat' (first|refine vs (k:=?_)|refine ps (k:=?_)|refine qRg ?_|refine Nx.h ?_|refine qCt ?_|fail)
    first | refine rt (hq:=?_) | refine rt' (hq:=?_)
    exact bad 2 _ eJ (by decide) (hs.onlyF [] (by simp [h1,g1,g2,B2,B3,B4,B5]) (by simp [D0]))
  rintro v w' ⟨rfl,ho⟩;replace hs:=hs.call0 ho;repeat' (first|refine vs (k:=?_)|fail)
  (with_reducible apply xs_call);exact rfl;exact rfl;exact cslice_ret ns _
  cases c3:mayN ns
  · rw [if_pos (.inr (.inr c3))] at eJ
    rintro v w' ⟨rfl,ho⟩;replace hs:=hs.call0 ho;repeat' (first|refine vs (k:=?_)|refine qRg ?_|refine Nx.h ?_|refine qCt ?_|fail)
    first | refine rt (hq:=?_) | refine rt' (hq:=?_)
    exact bad 2 _ eJ (by decide) (hs.onlyF [] (by simp [h1,g1,g2,B2,B3,B4,B5]) (by simp [D0]))
  rw [if_neg (by simp [c1,c2,c3])] at eJ
  rintro v w' ⟨rfl,ho⟩;replace hs:=hs.call0 ho;repeat' (first|refine vs (k:=?_)|refine qRg ?_|refine Nx.h ?_|refine qCf ?_|(refine xc_cond rfl (fun hc=>?_) (fun hc=>?_))|fail)
  · rw [if_pos hc] at eJ
    first | refine rt (hq:=?_) | refine rt' (hq:=?_)
    exact bad 13 _ eJ (by decide) (hs.onlyF [] (by simp [h1,g1,g2,B2,B3,B4,B5]) (by simp [D0]))
  rw [if_neg (by simp [hc])] at eJ
  have ho:=hs.onlyF [] (by simp [h1,g1,g2,B2,B3,B4,B5]) (by simp [D0])
  (with_reducible apply xs_call);exact rfl;exact rfl;exact alen_ret qb c.A _ (gQ.only ho)
  rintro v w' ⟨rfl,ho⟩;replace hs:=hs.call0 ho;repeat' (first|refine vs (k:=?_)|refine qRg ?_|refine Nx.h ?_|(refine xc_if rfl (fun hc=>?_) (fun hc=>?_))|fail)
  · rw [if_pos (by omega)] at eJ
    first | refine rt (hq:=?_) | refine rt' (hq:=?_)
    exact bad 7 _ eJ (by decide) (hs.onlyF [] (by simp [h1,g1,g2,B2,B3,B4,B5]) (by simp [D0]))
  rw [if_neg (by omega)] at eJ
  refine dr [] hs (k:=?_);intro hX w hs
  refine tk 0 hX (k:=?_)
  refine tk 1 hX (k:=?_)
  refine tk 2 hX (k:=?_)
  refine tk 3 hX (k:=?_)
  refine tk 4 hX (k:=?_)
  refine tk 5 hX (k:=?_)
  refine tk 6 hX (k:=?_)
  refine tk 7 hX (k:=?_)
  refine tk 8 hX (k:=?_)
  refine tk 9 hX (k:=?_)
  refine tk 10 hX (k:=?_)
  refine tk 11 hX (k:=?_)
  refine tk 12 hX (k:=?_)
  refine tk 13 hX (k:=?_)
  refine tk 14 hX (k:=?_)
  refine tk 15 hX (k:=?_)
  refine tk 16 hX (k:=?_)
  refine tk 18 hX (k:=?_)
  refine tk 19 hX (k:=?_)
  refine pd0 24 11 hs (k:=?_);intro f X w hp;have hs:=hp.st
  apply xa_pend 17 24 (f:=f) (X:=X) hX hp;exact rfl;exact rfl;(apply makes_alloc tabOk;exact rfl);kernel_rfl;kernel_rfl;kernel_rfl;kernel_rfl;(intro X Y;(repeat (first | exact pgg_base | refine pgg_step ?_ (by exact rfl))));(intro w' hs;first|exact se_hold hs.hold|exact se_hold hs.hold.tail|exact se_done rfl);intro f X w hp;have hs:=hp.st
  have ho:=hs.onlyF [] (by simp [h1,g1,g2,B2,B3,B4,B5]) (by simp [D0])
  (with_reducible apply xs_call);exact rfl;exact rfl;exact anow_ret qb c.A _ (gQ.only ho)
  rintro v w' ⟨rfl,ho⟩;replace hp:=hp.only ho;replace hs:=hp.st;repeat' (first|refine Nx.h ?_|fail)
  refine dn (k:=?_)
  apply xa_pend 20 24 (f:=f) (X:=X) hX hp;exact rfl;exact rfl;(apply makes_alloc tabOk;exact rfl);kernel_rfl;kernel_rfl;kernel_rfl;kernel_rfl;(intro X Y;(repeat (first | exact pgg_base | refine pgg_step ?_ (by exact rfl))));(intro w' hs;first|exact se_hold hs.hold|exact se_hold hs.hold.tail|exact se_done rfl);intro f X w hp;have hs:=hp.st
  have hnow:=gQ.nowU
  have eP:joinOk c id q ns lag=(placeA c.A q lag).bind fun p=>(newR p id ns).map toRT:=rfl
  have hPin:∀ p,placeA c.A q lag=some p→p.In:=fun p h=>plM_in hnow hq h
  (with_reducible apply xs_call);exact rfl;exact rfl;exact place_ret m (nowA c.A) q lag gin hq hlag _
  rw [show plM m (nowA c.A) q lag=placeA c.A q lag from gpl _ _ _]
  generalize placeA c.A q lag=op at *
  cases op with
  | none =>
    rw [show joinOk c id q ns lag=none from eP] at eJ
    rintro v w' ⟨rfl,ho⟩;replace hp:=hp.only ho;replace hs:=hp.st;repeat' (first|refine Nx.h ?_|fail)
    refine dn (k:=?_)
    refine tk 21 hX (hc:=by cases f <;> kernel_rfl) (k:=?_)
    refine tk 22 hX (hc:=by cases f <;> kernel_rfl) (k:=?_)
    refine tk 23 hX (hc:=by cases f <;> kernel_rfl) (k:=?_)
    apply xa_pendE 24 (f:=f) (X:=X) hX hp;exact rfl;(apply makes_alloc tabOk;exact rfl);kernel_rfl;kernel_rfl;(intro X Y;(repeat (first | exact pgg_base | refine pgg_step ?_ (by exact rfl))));(intro w' hs;first|exact se_hold hs.hold|exact se_hold hs.hold.tail|exact se_done rfl);intro b w hI hs
    refine dt 25 hX (k:=?_)
    repeat' (first|(refine stA hs (k:=?_);intro w hs)|refine Nx.h ?_|fail)
    refine dn (k:=?_)
    refine tk 26 hX (k:=?_)
    refine en (k:=?_)
    repeat' (first|refine vs (k:=?_)|refine qRg ?_|refine Nx.h ?_|fail)
    (with_reducible apply xs_call);exact rfl;exact rfl;exact rnew_ret .zero id ns (by decide) hid hns _
    generalize newR .zero id ns=o
    cases o
    · rintro v w' ⟨rfl,ho⟩;replace hs:=hs.call0 ho;repeat' (first|refine vs (k:=?_)|refine ps (k:=?_)|(refine stA hs (k:=?_);intro w hs)|(refine al hs (k:=?_);intro b w hz hs)|refine qRg ?_|refine Nx.h ?_|refine qCt ?_|fail)
      first | refine rt (hq:=?_) | refine rt' (hq:=?_)
      exact bad 8 _ eJ (by decide) (hs.onlyF [] (by simp [h1,g1,g2,B2,B3,B4,B5]) (by simp [D0]))
    · rintro v w' ⟨rfl,ho⟩;replace hs:=hs.call0 ho;repeat' (first|refine vs (k:=?_)|refine ps (k:=?_)|(refine stA hs (k:=?_);intro w hs)|(refine al hs (k:=?_);intro b w hz hs)|refine qRg ?_|refine Nx.h ?_|refine qCt ?_|fail)
      first | refine rt (hq:=?_) | refine rt' (hq:=?_)
      exact bad 8 _ eJ (by decide) (hs.onlyF [] (by simp [h1,g1,g2,B2,B3,B4,B5]) (by simp [D0]))
  | some p =>
    have hpin:=hPin p rfl
    have eP':joinOk c id q ns lag=(newR p id ns).map toRT:=eP
    rintro v w' ⟨rfl,ho⟩;replace hp:=hp.only ho;replace hs:=hp.st;repeat' (first|refine Nx.h ?_|fail)
    refine dn (k:=?_)
    refine tk 21 hX (hc:=by cases f <;> kernel_rfl) (k:=?_)
    refine tk 22 hX (hc:=by cases f <;> kernel_rfl) (k:=?_)
    refine tk 23 hX (hc:=by cases f <;> kernel_rfl) (k:=?_)
    apply xa_pendE 24 (f:=f) (X:=X) hX hp;exact rfl;(apply makes_alloc tabOk;exact rfl);kernel_rfl;kernel_rfl;(intro X Y;(repeat (first | exact pgg_base | refine pgg_step ?_ (by exact rfl))));(intro w' hs;first|exact se_hold hs.hold|exact se_hold hs.hold.tail|exact se_done rfl);intro b w hI hs
    refine dt 25 hX (k:=?_)
    repeat' (first|(refine stA hs (k:=?_);intro w hs)|refine Nx.h ?_|fail)
    refine dn (k:=?_)
    refine tk 26 hX (k:=?_)
    refine en (k:=?_)
    repeat' (first|refine vs (k:=?_)|refine qRg ?_|refine Nx.h ?_|fail)
    (with_reducible apply xs_call);exact rfl;exact rfl;exact rnew_ret p id ns hpin hid hns _
    cases hr:newR p id ns with
    | none =>
      rw [hr] at eP'
      rw [show joinOk c id q ns lag=none from eP'] at eJ
      rintro v w' ⟨rfl,ho⟩;replace hs:=hs.call0 ho;repeat' (first|refine vs (k:=?_)|(refine stA hs (k:=?_);intro w hs)|(refine al hs (k:=?_);intro b w hz hs)|refine qRg ?_|refine Nx.h ?_|refine qCt ?_|fail)
      first | refine rt (hq:=?_) | refine rt' (hq:=?_)
      exact bad 8 _ eJ (by decide) (hs.onlyF [] (by simp [h1,g1,g2,B2,B3,B4,B5]) (by simp [D0]))
    | some r =>
      obtain ⟨rin,rrt⟩:=newR_in hpin hid hns hr
      rw [hr] at eP'
      rw [show joinOk c id q ns lag=some ⟨r,rin⟩ by rw [eP'];exact congrArg some (dif_pos rin)] at eJ
      simp only at eJ
      rintro v w' ⟨rfl,ho⟩;replace hs:=hs.call0 ho;repeat' (first|refine vs (k:=?_)|(refine stA hs (k:=?_);intro w hs)|(refine al hs (k:=?_);intro b w hz hs)|refine qRg ?_|refine Nx.h ?_|refine qCf ?_|fail)
      have ho:=hs.onlyF [] (by simp [h1,g1,g2,B2,B3,B4,B5]) (by simp [D0])
      have x1:=hs.get (b:=cb) (o:=coreO sb c.run c.carr) (by repeat (first | exact At.head | (with_reducible apply At.tail)))
      have x2:=hs.get (b:=b) (by repeat (first | exact At.head | (with_reducible apply At.tail)))
      have x3:=hs.get (b:=b2) (by repeat (first | exact At.head | (with_reducible apply At.tail)))
      have hb:=hs.new _ List.mem_cons_self rfl
      simp only at hb
      clear hs
      have hs:=(((St.nil _).trackT x1).trackT x2).trackT x3
      refine dr [] hs (k:=?_);intro hX w hs
      refine tk 0 hX (k:=?_)
      refine tk 1 hX (k:=?_)
      refine tk 2 hX (k:=?_)
      refine tk 3 hX (k:=?_)
      refine tk 4 hX (k:=?_)
      refine dt 5 hX (k:=?_)
      have ho1:=hs.onlyF [] (by simp [x1,x2,x3]) (by simp [D0])
      have hSw:=hS.only (ho.trans ho1)
      (with_reducible apply xs_call);exact rfl;exact rfl;exact aenter_ret sb c.A Fs ⟨r,rin⟩ _ hSw
      rintro v w2 ⟨rfl,F2,hS2,hF2,ho2⟩
      have n1:cb∉Fs:=CAt.nod h1 hS
      have n2:b∉Fs:=hSw.not (hs.get (b:=b) (by repeat (first | exact At.head | (with_reducible apply At.tail)))) rfl
      have n3:b2∉Fs:=hS.not B2 rfl
      have y1:=ho2.block (hs.get (b:=cb) (o:=coreO sb c.run c.carr) (by repeat (first | exact At.head | (with_reducible apply At.tail)))) n1
      have y2:=ho2.block (hs.get (b:=b) (by repeat (first | exact At.head | (with_reducible apply At.tail)))) n2
      have y3:=ho2.block (hs.get (b:=b2) (by repeat (first | exact At.head | (with_reducible apply At.tail)))) n3
      have hoA:Only (rb :: (cb :: Fs) ++ []) w0 w2:=((ho.trans ho1).weaken (by simp)).step ho2 (fun k hk => .inl (by simp [hk]))
      have hz0:=(ho.trans ho1).size
      have hR2:RpAt w2 rb .none [rb]:=(hR.only (ho.trans ho1)).keepD ho2 (fun k hk hm=>by
        obtain rfl:=List.mem_singleton.1 hk
        exact hR0.apart hC0 k (by simp) (by simp [hm]))
      clear hs
      have hs:=(((St.nil w2).trackT y1).trackT y2).trackT y3
      repeat' (first|refine Nx.h ?_|fail)
      refine dn (k:=?_)
      refine tk 6 hX (k:=?_)
      refine en (k:=?_)
      by_cases hE:entE c.A ⟨r,rin⟩=0
      · rw [if_pos hE] at eJ
        rw [hE]
        repeat' (first|refine vs (k:=?_)|refine qRg ?_|refine Nx.h ?_|refine qCf ?_|fail)
        have ho3:=hs.onlyF [] (by simp [y1,y2,y3]) (by simp [D0])
        have hC2:CAt w2 cb ⟨entA c.A ⟨r,rin⟩,c.run,c.carr⟩ (cb :: F2):=⟨sb,F2,rfl,y1,hS2,h3,h4⟩
        (with_reducible apply xs_call);exact rfl;exact rfl;exact lagof_ret cb ⟨entA c.A ⟨r,rin⟩,c.run,c.carr⟩ _ id _ (hC2.only ho3) hid
        rintro v w' ⟨rfl,ho⟩;replace hs:=hs.call0 ho;skip
        have ho4:=hs.onlyF [] (by simp [y1,y2,y3]) (by simp [D0])
        obtain ⟨s2,hrep2⟩:=hS2.rep
        have hS4:=hS2.only ho4
        (with_reducible apply xs_call);exact rfl;exact rfl;exact carry_ret cb sb c.run c.carr _ _ (hs.get (b:=cb) (o:=coreO sb c.run c.carr) (by repeat (first | exact At.head | (with_reducible apply At.tail)))) h3 (lagA_in hrep2 id)
        rintro v w5 ⟨hc5,ho5⟩
        have n5:cb∉F2:=CAt.nod y1 hS2
        clear hs
        have hs:=St.nil w5
        repeat' (first|refine vs (k:=?_)|refine qRg ?_|refine Nx.h ?_|fail)
        first | refine rt (hq:=?_) | refine rt' (hq:=?_)
        have ho6:=hs.only0 rfl
        subst eJ
        have hoB:=(ho4.weaken (G:=[cb]) (by simp)).step ho5 (fun k hk => .inl hk)
        refine ⟨rfl,trivial,fun _=>⟨cb :: F2,[rb],⟨sb,F2,rfl,ho6.block hc5 (by simp),(hS4.keepD ho5 (fun k hk hm=>by obtain rfl:=List.mem_singleton.1 hm;exact n5 hk)).only ho6,carryW_in _ _,h4⟩,((hR2.keepD hoB (fun k hk hm=>by
          obtain rfl:=List.mem_singleton.1 hk
          obtain rfl:=List.mem_singleton.1 hm
          exact hR0.apart hC0 k (by simp) (by simp))).only ho6),fun k hk=>?_,fun k hk => .inl (by simpa using hk)⟩,(hoA.step hoB (fun k hk => .inl (by obtain rfl:=List.mem_singleton.1 hk;simp))).step ho6 (by simp)⟩
        rcases List.mem_cons.1 hk with rfl | hk
        · simp
        · rcases hF2 k hk with h | h
          · simp [h]
          · exact .inr (by omega)
      · rw [if_neg hE] at eJ
        subst eJ
        generalize entE c.A ⟨r,rin⟩=n at *
        repeat' (first|refine vs (k:=?_)|refine qRg ?_|refine Nx.h ?_|(refine xc_cond rfl (fun hc=>?_) (fun hc=>?_))|fail)
        · first | refine rt (hq:=?_) | refine rt' (hq:=?_)
          have ho6:=hs.onlyF [] (by simp [y1,y2,y3]) (by simp [D0])
          exact ⟨rfl,trivial,fun h=>absurd h hE,hoA.step ho6 (by simp)⟩
        · exact absurd (by simpa using hc) hE
set_option maxHeartbeats 4000000 in
theorem join_ret (cb:Nat) (c:Cs) (F:List Nat) (id q ns lag:Int) (w0:World) (h:CAt w0 cb c F) (hid:In64 id) (hq:U32 q) (hns:U64 ns) (hlag:In64 lag) :
    Ret Tryz.prog 56 #[.pointer (some ⟨cb,0,none⟩),.int .i64 id,.int .u32 q,.int .u64 ns,.int .i64 lag] w0 fun v w'=>∃ rv,v = .tuple #[rv,.int .i64 (joinC c id q ns lag).1]∧RvAt w' rv (tryR (joinC c id q ns lag).1 (joinC c id q ns lag).2 .none) ∧
      (∃ F',CAt w' cb (tryC c (joinC c id q ns lag).1 (joinC c id q ns lag).2) F'∧∀ k∈F',k∈F∨w0.heap.size≤k)∧Only [cb] w0 w':=by
  have hs:=St.nil w0
  refine ret_of_xc Tryz.func56 (by kernel_rfl) rfl Tryz.ntmps56 rfl rfl rfl ?_
  refine xc_seq ?_
  refine xc_region ?_ ?_;exact rfl
  refine bx hs (k:=?_);intro b6 w _ hs
  refine bx hs (k:=?_);intro b7 w _ hs
  refine bx hs (k:=?_);intro b8 w _ hs
  refine bx hs (k:=?_);intro b9 w _ hs
  refine al hs (k:=?_);intro b10 w hz hs
  repeat' (first|refine vs (k:=?_)|refine qRg ?_|refine Nx.h ?_|fail)
  have ho:=hs.only0 rfl
  have hz:=ho.size
  have x6:=hs.get (b:=b6) (by repeat (first | exact At.head | (with_reducible apply At.tail)))
  have x7:=hs.get (b:=b7) (by repeat (first | exact At.head | (with_reducible apply At.tail)))
  have x8:=hs.get (b:=b8) (by repeat (first | exact At.head | (with_reducible apply At.tail)))
  have x9:=hs.get (b:=b9) (by repeat (first | exact At.head | (with_reducible apply At.tail)))
  have x10:=hs.get (b:=b10) (by repeat (first | exact At.head | (with_reducible apply At.tail)))
  have hCw:=h.only ho
  have hb:=hs.new _ List.mem_cons_self rfl
  simp only at hb
  (with_reducible apply xs_call);exact rfl;exact rfl;exact try_ret cb c F _ hCw 106 [.pointer (some ⟨b6,0,none⟩),.pointer (some ⟨b7,0,none⟩),.pointer (some ⟨b8,0,none⟩),.pointer (some ⟨b9,0,none⟩)] [] (fun _=>True) (joinC c id q ns lag).1 (joinC c id q ns lag).2 .none (fun _ _ _ _ _ _=>trivial) (by simp) (by simp [Rp.none]) (fun w1 ho1=>join1_ret b6 b7 b8 b9 c id q ns lag _ w1 hid hq hns hlag (ho1.block x6 (by simp)) (ho1.block x7 (by simp)) (ho1.block x8 (by simp)) (ho1.block x9 (by simp)))
  rintro v w2 ⟨rv,rfl,_,hRv,⟨F',hC',hF'⟩,ho2⟩
  obtain ⟨vg,vp,Gg,Gp,rfl,p1,p2⟩:=hRv
  obtain ⟨ag,cg,rfl⟩:=slv_form p1
  obtain ⟨ap,cp,rfl⟩:=slv_form p2
  have x2:=ho2.block x10 (fun hm=>by obtain rfl:=List.mem_singleton.1 hm;exact hCw.not x10 rfl (by obtain ⟨_,_,rfl,_⟩:=hCw;simp))
  clear hs
  have hs:=(St.nil w2).trackT x2
  repeat' (first|refine vs (k:=?_)|(refine stA hs (k:=?_);intro w hs)|refine Nx.h ?_|fail)
  first | refine rt (hq:=?_) | refine rt' (hq:=?_)
  have ho3:Only [b10] w2 _:=hs.onlyF [b10] (by simp) (by simp [D0])
  exact ⟨_,rfl,⟨_,_,Gg,Gp,rfl,p1.keep ho3 (fun k hk hm=>by obtain rfl:=List.mem_singleton.1 hm;exact slv_ne p1 x2 (by decide) hk),p2.keep ho3 (fun k hk hm=>by obtain rfl:=List.mem_singleton.1 hm;exact slv_ne p2 x2 (by decide) hk)⟩,⟨F',hC'.keepD ho3 (fun k hk hm=>by obtain rfl:=List.mem_singleton.1 hm;exact hC'.not x2 rfl hk),fun k hk=>by
    rcases hF' k hk with h | h
    · exact .inl h
    · exact .inr (by omega)⟩,((ho.weaken (by simp)).step ho2 (fun k hk => .inl hk)).step ho3 (fun k hk => .inr (by obtain rfl:=List.mem_singleton.1 hk;exact hb))⟩
end Go.Proofs.YtkbcfknnieggbaaGreatDoorX

namespace Go.Proofs.YtkbcfknnieggbaaGreatDoorX
open Go Go.RowKit
attribute [local irreducible] XS XC XA thenE blockE retE loopE loopS cutB cutN doneE SE
theorem getL_in (l:List RT) (i:Int):(getL l i).In:=by
  unfold getL
  cases findR l i with
  | none=>decide
  | some a=>exact a.2
def srvN (c:Cs) (most:Int):Int:=lessN most (getL c.A.l c.run).left
def srvO (c:Cs) (most:Int):Option (Rq × Bool):=serveR (getL c.A.l c.run) (srvN c most)
def srvY (c:Cs) (most:Int):RT:=toRT (match srvO c most with | some x=>x.1 | none => .zero)
def srvE (c:Cs) (most:Int):Int:=putE c.A (srvY c most)
def srvA (c:Cs) (most:Int):Cs:=⟨putA c.A (srvY c most),c.run,c.carr⟩
def srvP (c:Cs) (most:Int):Pr:=⟨c.run,srvN c most,match srvO c most with | some x=>x.2 | none=>false⟩
def srvR (c:Cs) (most:Int) (r:Rp):Rp:=⟨r.g ++ goneC (srvA c most),r.p ++ [srvP c most]⟩
theorem srvY_eq (c:Cs) (most:Int) (hm:U64 most):(srvY c most).1=(match srvO c most with | some x=>x.1 | none => .zero)∧U64 (srvN c most):=by
  have h1:U64 (srvN c most):=lessN_in hm (getL_in _ _).2.1
  refine ⟨toRT_eq ?_,h1⟩
  cases e:srvO c most with
  | none=>show Rq.zero.In;decide
  | some x=>exact serveR_in (getL_in c.A.l c.run) h1 (show serveR _ _=some (x.1,x.2) from e)
theorem flatPr_snoc (l:List Pr) (p:Pr):flatPr (l ++ [p])=flatPr l ++ p.cells:=by simp [flatPr]
set_option maxHeartbeats 8000000 in
theorem serve_ret (cb rb:Nat) (c:Cs) (most:Int) (r:Rp) (F Fr:List Nat) (w0:World) (h:CAt w0 cb c F) (hr:RpAt w0 rb r Fr) (hm:U64 most) (hg:r.g.length≤1000000) (hp':r.p.length < 2000000000000) :
    Ret Tryz.prog 79 #[.pointer (some ⟨cb,0,none⟩),.int .u64 most,.pointer (some ⟨rb,0,none⟩)] w0 fun v w'=>v = .tuple #[.int .u64 (if srvE c most=0 then srvN c most else 0),.int .i64 (srvE c most)] ∧
      (srvE c most=0→∃ F' Fr',CAt w' cb (setC (srvA c most)) F'∧RpAt w' rb (srvR c most r) Fr'∧(∀ k∈F',k∈F∨w0.heap.size≤k)∧(∀ k∈Fr',k∈Fr∨w0.heap.size≤k))∧Only (F ++ Fr) w0 w':=by
  have hC0:=h
  have hR0:=hr
  have hap:=hr.apart h
  obtain ⟨sb,Fs,rfl,h1,hS,h3,h4⟩:=h
  obtain ⟨vg,vp,Gg,Gp,rfl,r1,r2,r3⟩:=hr
  have hs:=((St.nil w0).trackT h1).trackT r1
  refine ret_of_xc Tryz.func79 (by kernel_rfl) rfl Tryz.ntmps79 rfl rfl rfl ?_
  repeat' (first|refine vs (k:=?_)|refine qRg ?_|refine Nx.h ?_|fail)
  refine dr [] hs (k:=?_);intro hX w hs
  refine tk 0 hX (k:=?_)
  refine tk 1 hX (k:=?_)
  refine tk 2 hX (k:=?_)
  refine tk 3 hX (k:=?_)
  refine tk 4 hX (k:=?_)
  refine tk 5 hX (k:=?_)
  refine tk 6 hX (k:=?_)
  refine tk 7 hX (k:=?_)
  refine pd0 12 8 hs (k:=?_);intro f X w hp;have hs:=hp.st
  apply xa_pend 8 12 (f:=f) (X:=X) hX hp;exact rfl;exact rfl;(apply makes_alloc tabOk;exact rfl);kernel_rfl;kernel_rfl;kernel_rfl;kernel_rfl;(intro X Y;(repeat (first | exact pgg_base | refine pgg_step ?_ (by exact rfl))));(intro w' hs;first|exact se_hold hs.hold|exact se_hold hs.hold.tail|exact se_done rfl);intro f X w hp;have hs:=hp.st
  have ho:=hs.onlyF [] (by simp [h1,r1]) (by simp [D0])
  (with_reducible apply xs_call);exact rfl;exact rfl;exact areq_ret sb c.A Fs c.run _ (hS.only ho) h4
  have hx:=getL_in c.A.l c.run
  obtain ⟨eY,eN⟩:=srvY_eq c most hm
  have eN':srvN c most=lessN most (getL c.A.l c.run).left:=rfl
  have eO:srvO c most=serveR (getL c.A.l c.run) (srvN c most):=rfl
  have eP:srvP c most=⟨c.run,srvN c most,match srvO c most with | some x=>x.2 | none=>false⟩:=rfl
  have eE:srvE c most=putE c.A (srvY c most):=rfl
  have eA:srvA c most=⟨putA c.A (srvY c most),c.run,c.carr⟩:=rfl
  have eR:srvR c most r=⟨r.g ++ goneC (srvA c most),r.p ++ [srvP c most]⟩:=rfl
  generalize getL c.A.l c.run=x at *
  rintro v w' ⟨rfl,ho⟩;replace hp:=hp.only ho;replace hs:=hp.st;repeat' (first|refine Nx.h ?_|fail)
  refine dn (k:=?_)
  refine tk 9 hX (hc:=by cases f <;> kernel_rfl) (k:=?_)
  refine tk 10 hX (hc:=by cases f <;> kernel_rfl) (k:=?_)
  refine tk 11 hX (hc:=by cases f <;> kernel_rfl) (k:=?_)
  apply xa_pendE 12 (f:=f) (X:=X) hX hp;exact rfl;(apply makes_alloc tabOk;exact rfl);kernel_rfl;kernel_rfl;(intro X Y;(repeat (first | exact pgg_base | refine pgg_step ?_ (by exact rfl))));(intro w' hs;first|exact se_hold hs.hold|exact se_hold hs.hold.tail|exact se_done rfl);intro b w hI hs
  refine dt 13 hX (k:=?_)
  repeat' (first|(refine stA hs (k:=?_);intro w hs)|refine Nx.h ?_|fail)
  refine dn (k:=?_)
  refine tk 14 hX (k:=?_)
  refine en (k:=?_)
  repeat' (first|refine vs (k:=?_)|refine qRg ?_|refine Nx.h ?_|fail)
  rw [show (if x.left < most then x.left else most)=srvN c most from eN'.symm]
  generalize srvN c most=n at *
  have hsv:∃ u bd ok,svV (srvO c most) = .tuple #[rv u,.bool bd,.bool ok]∧(srvY c most).1=u∧srvP c most=⟨c.run,n,bd⟩:=by
    rw [eY,eP]
    cases srvO c most with
    | none=>exact ⟨_,_,_,rfl,rfl,rfl⟩
    | some y=>exact ⟨_,_,_,rfl,rfl,rfl⟩
  obtain ⟨u,bd,ok,hsv,hYu,hPe⟩:=hsv
  rw [eO] at hsv
  (with_reducible apply xs_call);exact rfl;exact rfl;exact rserve_ret x n hx eN _
  rw [hsv]
  clear eO eP hsv eY
  generalize srvY c most=Y at *
  generalize srvP c most=P at *
  generalize srvA c most=c2 at *
  generalize srvE c most=e at *
  generalize srvR c most r=R at *
  subst hYu hPe
  rintro v w' ⟨rfl,ho⟩;replace hs:=hs.call0 ho;repeat' (first|refine vs (k:=?_)|(refine stA hs (k:=?_);intro w hs)|(refine al hs (k:=?_);intro b w hz hs)|refine Nx.h ?_|fail)
  have ho:=hs.onlyF [] (by simp [h1,r1]) (by simp [D0])
  have x1:=hs.get (b:=cb) (o:=coreO sb c.run c.carr) (by repeat (first | exact At.head | (with_reducible apply At.tail)))
  have x2:=hs.get (b:=b) (by repeat (first | exact At.head | (with_reducible apply At.tail)))
  have x3:=hs.get (b:=rb) (o:=repO vg vp) (by repeat (first | exact At.head | (with_reducible apply At.tail)))
  clear hs
  obtain ⟨bY,rfl⟩:∃ z,z=b:=⟨_,rfl⟩
  have hs:=(((St.nil _).trackT x1).trackT x2).trackT x3
  refine dr [] hs (k:=?_);intro hX w hs
  refine tk 0 hX (k:=?_)
  refine tk 1 hX (k:=?_)
  refine tk 2 hX (k:=?_)
  refine tk 3 hX (k:=?_)
  refine tk 4 hX (k:=?_)
  refine dt 5 hX (k:=?_)
  have ho1:=hs.onlyF [] (by simp [x1,x2,x3]) (by simp [D0])
  have hSw:=hS.only (ho.trans ho1)
  (with_reducible apply xs_call);exact rfl;exact rfl;exact aput_ret sb c.A Fs Y _ hSw
  rw [← eE]
  rintro v w2 ⟨rfl,F2,hS2,hF2,ho2⟩
  have n1:cb∉Fs:=CAt.nod h1 hS
  have n3:rb∉Fs:=hS.not r1 rfl
  have y1:=ho2.block (hs.get (b:=cb) (o:=coreO sb c.run c.carr) (by repeat (first | exact At.head | (with_reducible apply At.tail)))) n1
  have y3:=ho2.block (hs.get (b:=rb) (o:=repO vg vp) (by repeat (first | exact At.head | (with_reducible apply At.tail)))) n3
  have y2:=ho2.block (hs.get (b:=bY) (by repeat (first | exact At.head | (with_reducible apply At.tail)))) (hSw.not (hs.get (b:=bY) (by repeat (first | exact At.head | (with_reducible apply At.tail)))) rfl)
  have hoA:Only ((cb :: Fs) ++ (rb :: (Gg ++ Gp))) w0 w2:=((ho.trans ho1).weaken (by simp)).step ho2 (fun k hk => .inl (by simp [hk]))
  have hz0:=(ho.trans ho1).size
  have hR2:RpAt w2 rb r (rb :: (Gg ++ Gp)):=(hR0.only (ho.trans ho1)).keepD ho2 (fun k hk hm=>hap k hk (by simp [hm]))
  clear hs
  have hs:=(((St.nil w2).trackT y1).trackT y2).trackT y3
  repeat' (first|refine Nx.h ?_|fail)
  refine dn (k:=?_)
  refine tk 6 hX (k:=?_)
  refine en (k:=?_)
  by_cases he:e=0
  · subst he
    rw [if_pos (rfl:(0:Int)=0)]
    repeat' (first|refine vs (k:=?_)|refine qRg ?_|refine Nx.h ?_|refine qCf ?_|fail)
    obtain ⟨vg',vp',Gg',Gp',eF,q1,q2,q3⟩:=hR2
    obtain ⟨rfl,rfl⟩:vg=vg'∧vp=vp':=by rw [y3] at q1;simp only [Option.some.injEq,Obj.cells.injEq] at q1;have:=congrArg Array.toList q1.1;simp at this;exact this
    refine dr [16] hs (k:=?_);intro hX w hs
    refine tk 0 hX (k:=?_)
    refine tk 1 hX (k:=?_)
    refine tk 2 hX (k:=?_)
    refine tk 3 hX (k:=?_)
    refine tk 4 hX (k:=?_)
    refine tk 5 hX (k:=?_)
    refine tk 6 hX (k:=?_)
    refine tk 7 hX (k:=?_)
    refine tk 8 hX (k:=?_)
    refine tk 9 hX (k:=?_)
    refine tk 10 hX (k:=?_)
    refine tk 11 hX (k:=?_)
    refine dt 12 hX (k:=?_)
    repeat' (first|(refine bs hs (k:=?_);intro b w hz hs)|refine Nx.h ?_|fail)
    refine dn (k:=?_)
    refine dt 13 hX (k:=?_)
    have hoB:=hs.onlyF [] (by simp [y1,y2,y3]) (by simp [D0])
    refine xs_appendW tabOk rfl rfl rfl rfl rfl rfl rfl (by decide) (lit_cells (news:=Pr.cells ⟨c.run,n,bd⟩) (hs.get At.head)) (by simp [Value.oneCell']) (q3.keep hoB (by simp)) (by omega) (by omega) ?_
    intro v3 w3 ⟨G3,hG3,hG3n⟩ ho3
    obtain ⟨a3,cp3,rfl⟩:=slv_form hG3
    have d1:∀ k∈Gp',k≠cb∧k≠rb∧k≠bY:=fun k hk=>⟨fun e=>slv_ne q3 y1 (by decide) (e ▸ hk),fun e=>slv_ne q3 y3 (by decide) (e ▸ hk),fun e=>slv_ne q3 y2 (by decide) (e ▸ hk)⟩
    have z1:=ho3.block (hs.get (b:=cb) (o:=coreO sb c.run c.carr) (by repeat (first | exact At.head | (with_reducible apply At.tail)))) (fun hm=>(d1 _ hm).1 rfl)
    have z2:=ho3.block (hs.get (b:=bY) (by repeat (first | exact At.head | (with_reducible apply At.tail)))) (fun hm=>(d1 _ hm).2.2 rfl)
    have z3:=ho3.block (hs.get (b:=rb) (o:=repO vg vp) (by repeat (first | exact At.head | (with_reducible apply At.tail)))) (fun hm=>(d1 _ hm).2.1 rfl)
    have hoC3:Only Gp' w2 w3:=(hoB.weaken (by simp)).step ho3 (fun k hk => .inl hk)
    have hz3:=hoC3.size
    have hzB:=hoB.size
    have hoC3':Only (F2 ++ (rb :: (Gg ++ Gp))) w2 w3:=hoC3.weaken (fun k hk=>by
      have:k∈rb :: (Gg' ++ Gp'):=by simp [hk]
      rw [← eF] at this
      exact List.mem_append_right _ this)
    have hSn:∀ k∈F2,k∉Gp':=fun k hk hm=>by
      obtain ⟨cs,hc⟩:=slv_at q3 k hm
      exact hS2.not hc rfl hk
    have hS3:=hS2.keepD hoC3 hSn
    have hG3':=q2.keep hoC3 (slv_two q2 q3 (by decide))
    clear hs
    have hs:=(((St.nil w3).trackT z1).trackT z2).trackT z3
    repeat' (first|refine Nx.h ?_|fail)
    refine dn (k:=?_)
    refine tk 14 hX (k:=?_)
    refine tk 15 hX (k:=?_)
    refine dt 16 hX (k:=?_)
    repeat' (first|(refine st hs (k:=?_);intro w hs)|refine Nx.h ?_|fail)
    refine dn (k:=?_)
    refine en (k:=?_)
    have f1:=hs.get (b:=cb) (o:=coreO sb c.run c.carr) (by repeat (first | exact At.head | (with_reducible apply At.tail)))
    have f3:=hs.get (b:=rb) (by repeat (first | exact At.head | (with_reducible apply At.tail)))
    have hoD:Only [rb] w3 _:=hs.onlyF [rb] (by simp [z1,z2]) (by simp [D0])
    have n4:rb∉F2:=fun hm=>by
      rcases hF2 rb hm with h | h
      · exact n3 h
      · have:=lt_of_block r1;omega
    have hS4:=hS3.keepD hoD (fun k hk hm=>by obtain rfl:=List.mem_singleton.1 hm;exact n4 hk)
    have hG4:=hG3'.keep hoD (fun k hk hm=>by obtain rfl:=List.mem_singleton.1 hm;exact slv_ne hG3' z3 (by decide) hk)
    have hP4:=hG3.keep hoD (fun k hk hm=>by obtain rfl:=List.mem_singleton.1 hm;exact slv_ne hG3 z3 (by decide) hk)
    have hR4:RpAt _ rb ⟨r.g,r.p ++ [⟨c.run,n,bd⟩]⟩ (rb :: (Gg' ++ G3)):=⟨_,_,Gg',G3,rfl,f3,hG4,by
      unfold SlP;rw [List.length_append,flatPr_snoc];exact hP4⟩
    have hC4:CAt _ cb c2 (cb :: F2):=⟨sb,F2,rfl,by rw [eA];exact f1,by rw [eA];exact hS4,by rw [eA];exact h3,by rw [eA];exact h4⟩
    have hoE:Only ((cb :: Fs) ++ (rb :: (Gg ++ Gp))) w0 _:=(hoA.step hoC3' (fun k hk=>by
      rcases List.mem_append.1 hk with h | h
      · rcases hF2 k h with h | h
        · exact .inl (by simp [h])
        · exact .inr (by omega)
      · exact .inl (List.mem_append_right _ h))).step hoD (fun k hk => .inl (by obtain rfl:=List.mem_singleton.1 hk;simp))
    have hF2':∀ k∈cb :: F2,k∈cb :: Fs∨w0.heap.size≤k:=fun k hk=>by
      rcases List.mem_cons.1 hk with rfl | hk
      · simp
      · rcases hF2 k hk with h | h
        · exact .inl (by simp [h])
        · exact .inr (by omega)
    have hFr4:∀ k∈rb :: (Gg' ++ G3),k∈rb :: (Gg ++ Gp)∨w0.heap.size≤k:=fun k hk=>by
      rw [eF]
      simp only [List.mem_cons,List.mem_append] at hk ⊢
      rcases hk with rfl | hk | hk
      · simp
      · simp [hk]
      · have hzA:=hoA.size
        rcases hG3n k hk with h | h
        · simp [h]
        · exact .inr (by omega)
    have hzE:=hoE.size
    repeat' (first|refine vs (k:=?_)|refine qRg ?_|refine Nx.h ?_|fail)
    (with_reducible apply xs_call);exact rfl;exact rfl;exact csettle_ret cb rb c2 ⟨r.g,r.p ++ [⟨c.run,n,bd⟩]⟩ _ _ _ hC4 hR4 hg
    rintro v w6 ⟨F6,Fr6,hC6,hR6,hF6,hFr6,ho6⟩
    clear hs
    have hs:=St.nil w6
    repeat' (first|refine vs (k:=?_)|refine qRg ?_|refine Nx.h ?_|fail)
    first | refine rt (hq:=?_) | refine rt' (hq:=?_)
    have ho7:=hs.only0 rfl
    refine ⟨rfl,fun _=>⟨F6,Fr6,hC6.only ho7,by rw [eR];exact hR6.only ho7,fun k hk=>?_,fun k hk=>?_⟩,(hoE.step ho6 (fun k hk=>?_)).step ho7 (by simp)⟩
    · rcases hF6 k hk with h | h
      · exact hF2' k h
      · exact .inr (by omega)
    · rcases hFr6 k hk with h | h
      · exact hFr4 k h
      · exact .inr (by omega)
    · rcases List.mem_append.1 hk with h | h
      · rcases hF2' k h with h | h
        · exact .inl (List.mem_append_left _ h)
        · exact .inr h
      · rcases hFr4 k h with h | h
        · exact .inl (List.mem_append_right _ h)
        · exact .inr h
  · rw [if_neg he]
    repeat' (first|refine vs (k:=?_)|refine qRg ?_|refine Nx.h ?_|(refine xc_cond rfl (fun hc=>?_) (fun hc=>?_))|fail)
    · first | refine rt (hq:=?_) | refine rt' (hq:=?_)
      have ho6:=hs.onlyF [] (by simp [y1,y2,y3]) (by simp [D0])
      exact ⟨rfl,fun h=>absurd h he,hoA.step ho6 (by simp)⟩
    · exact absurd (by simpa using hc) he
end Go.Proofs.YtkbcfknnieggbaaGreatDoorX

namespace Go.Proofs.YtkbcfknnieggbaaGreatDoorX
open Go Go.RowKit
attribute [local irreducible] XS XC XA thenE blockE retE loopE loopS cutB cutN doneE SE
def tickN:Nat→Int→Cs→Rp→Int × Cs × Rp
  | 0,_,c,r=>(0,c,r)
  | k+1,left,c,r=>if 0 < left∧c.run≠0 then (if srvE c left=0 then tickN k (left - srvN c left) (setC (srvA c left)) (srvR c left r) else (srvE c left,c,r)) else (0,c,r)
def tickC (c:Cs) (ns:Int):Int × Cs × Rp:=if 1≤ns∧ns≤1099511627776 then tickN (ns.toNat+1) ns c .none else (2,c,.none)
theorem srv_step {c:Cs} {most:Int} (hm:U64 most) (h:srvE c most=0):1≤srvN c most∧srvN c most≤most:=by
  obtain ⟨h1,h2⟩:=srvY_eq c most hm
  unfold srvE putE layE at h
  cases k:(srvY c most).1.right with
  | false=>rw [k] at h;cases h
  | true =>
    rw [h1] at k
    cases e:srvO c most with
    | none=>rw [e] at k;exact absurd k (by decide)
    | some x =>
      unfold srvO serveR at e
      split at e
      · rename_i h3
        have:=h2.1
        refine ⟨by have:=h3.2.1;omega,?_⟩
        show lessN most _≤most
        unfold lessN;split <;> omega
      · cases e
theorem tick_len:∀ (k:Nat) (left:Int) (c:Cs) (r:Rp),r.p.length≤(tickN k left c r).2.2.p.length∧r.g.length≤(tickN k left c r).2.2.g.length
  | 0,_,_,_=>⟨Nat.le_refl _,Nat.le_refl _⟩
  | k+1,left,c,r=>by
    unfold tickN
    split
    · split
      · have:=tick_len k (left - srvN c left) (setC (srvA c left)) (srvR c left r)
        simp only [srvR,List.length_append,List.length_cons,List.length_nil] at this ⊢
        omega
      · exact ⟨Nat.le_refl _,Nat.le_refl _⟩
    · exact ⟨Nat.le_refl _,Nat.le_refl _⟩
set_option maxHeartbeats 8000000 in
theorem tick1_ret (b2:Nat) (c:Cs) (ns:Int) (wb w0:World) (hns:U64 ns) (B2:w0.heap[b2]?=some (.cells #[.int .u64 ns] 22 (0,0)))
    (hTp:(tickC c ns).2.2.p.length < 2000000000000) (hTg:(tickC c ns).2.2.g.length≤1000000) :
    DoAt wb w0 78 [.pointer (some ⟨b2,0,none⟩)] [] (fun _=>True) c (tickC c ns).1 (tickC c ns).2.1 (tickC c ns).2.2:=by
  intro cb rb F hC hR hFn hrb
  have hap:=hR.apart hC
  have hs:=(St.nil w0).trackT B2
  have eT:tickC c ns=if 1≤ns∧ns≤1099511627776 then tickN (ns.toNat+1) ns c .none else (2,c,.none):=rfl
  generalize tickC c ns=T at *
  have bad:∀ (w':World),T=(2,c,.none)→Only [] w0 w'→Value.int .i64 2 = .int .i64 T.1∧True∧(T.1=0→∃ F2 Fr,CAt w' cb T.2.1 F2∧RpAt w' rb T.2.2 Fr∧(∀ k∈F2,k∈F∨w0.heap.size≤k)∧∀ k∈Fr,k=rb∨w0.heap.size≤k)∧Only (rb :: F ++ []) w0 w':=fun w' e ho=>by
    subst e;exact ⟨rfl,trivial,fun h=>absurd h (show ¬ (2:Int)=0 by decide),ho.weaken (by simp)⟩
  refine ret_of_xc Tryz.func78 (by kernel_rfl) rfl Tryz.ntmps78 rfl rfl rfl ?_
  repeat' (first|refine Nx.h ?_|fail)
  refine xc_region ?_ ?_;exact rfl
  refine vs (k:=?_)
  repeat' (first|refine Nx.h ?_|fail)
  refine xc_region ?_ ?_;exact rfl
  refine vs (k:=?_)
  refine vs (k:=?_)
  by_cases c1:ns < 1
  · rw [if_neg (by omega)] at eT
    rw [decide_eq_true c1]
    repeat' (first|refine vs (k:=?_)|refine ps (k:=?_)|refine qRg ?_|refine Nx.h ?_|refine qCt ?_|fail)
    first | refine rt (hq:=?_) | refine rt' (hq:=?_)
    exact bad _ eT (hs.onlyF [] (by simp [B2]) (by simp [D0]))
  rw [decide_eq_false c1]
  refine vs (k:=?_)
  refine vs (k:=?_)
  refine vs (k:=?_)
  by_cases c2:ns > 1099511627776
  · rw [if_neg (by omega)] at eT
    rw [decide_eq_true c2]
    repeat' (first|refine vs (k:=?_)|refine qRg ?_|refine Nx.h ?_|refine qCt ?_|fail)
    first | refine rt (hq:=?_) | refine rt' (hq:=?_)
    exact bad _ eT (hs.onlyF [] (by simp [B2]) (by simp [D0]))
  rw [decide_eq_false c2]
  rw [if_pos (by omega)] at eT
  repeat' (first|refine vs (k:=?_)|refine qRg ?_|refine Nx.h ?_|refine qCf ?_|fail)
  have ho:=hs.onlyF [] (by simp [B2]) (by simp [D0])
  let Inv (left:Int) (c':Cs) (r:Rp) (F' Fr:List Nat) (w:World):Prop:=U64 left∧(∃ k:Nat,left < k∧tickN k left c' r=T)∧CAt w cb c' F'∧RpAt w rb r Fr∧(∀ k∈F',k∈F∨w0.heap.size≤k)∧(∀ k∈Fr,k=rb∨w0.heap.size≤k)∧Only (rb :: F ++ []) w0 w
  refine xc_cutB (fun (_:Unit)=>[]) (fun _ w=>T.1=0∧∃ F2 Fr,CAt w cb T.2.1 F2∧RpAt w rb T.2.2 Fr∧(∀ k∈F2,k∈F∨w0.heap.size≤k)∧(∀ k∈Fr,k=rb∨w0.heap.size≤k)∧Only (rb :: F ++ []) w0 w) ?_ ?_
  · refine xc_loopS (fun (x:Int × Cs × Rp × List Nat × List Nat)=>[(0,.pointer (some ⟨cb,0,none⟩)),(1,.pointer (some ⟨rb,0,none⟩)),(6,.int .u64 x.1)])
      (fun x w=>Inv x.1 x.2.1 x.2.2.1 x.2.2.2.1 x.2.2.2.2 w) (fun x=>x.1.toNat) (ns,c,.none,F,[rb]) (by (repeat (first | exact agree_nil | (apply agree_cons;exact rfl)))) ⟨hns,⟨ns.toNat+1,by omega,eT.symm⟩,hC.only ho,hR.only ho,fun k hk => .inl hk,fun k hk => .inl (by simpa using hk),ho.weaken (by simp)⟩ fun x env wl hI=>?_
    obtain ⟨left,c',r,F',Fr⟩:=x
    obtain ⟨hl,⟨k,hk,hT⟩,hC1,hR1,hF1,hFr1,hoW⟩:=hI
    simp only at hl hk hT hC1 hR1 hF1 hFr1
    have hC2:=hC1
    obtain ⟨sb,Fs',rfl,q1,q2,q3,q4⟩:=hC2
    have htl:=tick_len k left c' r
    rw [hT] at htl
    clear hs
    have hs:=(St.nil wl).trackT q1
    cases k with
    | zero=>have:=hl.1;omega
    | succ k =>
    unfold tickN at hT
    repeat' (first|refine Nx.h ?_|fail)
    refine xc_region ?_ ?_;exact rfl
    refine vs (k:=?_)
    refine vs (k:=?_)
    by_cases l0:left > 0
    · rw [decide_eq_true l0]
      by_cases hrun:c'.run=0
      · rw [if_neg (by omega)] at hT
        subst hT
        have hs0:=hs
        rw [hrun] at hs
        repeat' (first|refine vs (k:=?_)|refine Nx.h ?_|refine qCf ?_|fail)
        have ho:=hs.onlyF [] (by simp [q1,hrun]) (by simp [D0])
        exact cutB_exit () (by (repeat (first | exact agree_nil | (apply agree_cons;exact rfl)))) ⟨rfl,_,_,hC1.only ho,hR1.only ho,hF1,hFr1,hoW.step ho (by simp)⟩
      · rw [if_pos ⟨by omega,hrun⟩] at hT
        repeat' (first|refine vs (k:=?_)|refine qRg ?_|refine Nx.h ?_|(refine xc_cond rfl (fun hc=>?_) (fun hc=>?_))|fail)
        · have ho:=hs.onlyF [] (by simp [q1]) (by simp [D0])
          have hz:=hoW.size
          have hzo:=ho.size
          (with_reducible apply xs_call);exact rfl;exact rfl;exact serve_ret cb rb c' left r _ _ _ (hC1.only ho) (hR1.only ho) hl (by omega) (by omega)
          rintro v w3 ⟨rfl,hok,ho3⟩
          have hoX:Only (rb :: F ++ []) w0 w3:=(hoW.step ho (by simp)).step ho3 (fun k hk=>by
            rcases List.mem_append.1 hk with h | h
            · rcases hF1 k h with h | h
              · exact .inl (by simp [h])
              · exact .inr h
            · rcases hFr1 k h with h | h
              · exact .inl (by simp [h])
              · exact .inr h)
          clear hs
          have hs:=St.nil w3
          by_cases hE:srvE c' left=0
          · rw [if_pos hE] at hT
            obtain ⟨F2,Fr2,a1,a2,a3,a4⟩:=hok hE
            obtain ⟨s1,s2⟩:=srv_step hl hE
            have ew:IntKind.u64.wrap (left - srvN c' left)=left - srvN c' left:=by rw [wrap_u64];unfold U64 at hl;omega
            rw [hE,if_pos rfl]
            repeat' (first|refine vs (k:=?_)|refine qRg ?_|refine Nx.h ?_|refine qCf ?_|fail)
            refine loopS_next (left - srvN c' left,setC (srvA c' left),srvR c' left r,F2,Fr2) (by show (left - srvN c' left).toNat < left.toNat;omega) (by (repeat (first | exact agree_nil | (apply agree_cons;first | exact rfl | exact congrArg (Value.int .u64) ew | exact congrArg (Value.int .u64) ew)))) ⟨?_,⟨k,?_,hT⟩,a1.only (hs.only0 rfl),a2.only (hs.only0 rfl),fun k hk=>?_,fun k hk=>?_,hoX.step (hs.only0 rfl) (by simp)⟩
            · unfold U64 at hl ⊢;simp only;omega
            · simp only;omega
            · rcases a3 k hk with h | h
              · exact hF1 k h
              · exact .inr (by omega)
            · rcases a4 k hk with h | h
              · exact hFr1 k h
              · exact .inr (by omega)
          · rw [if_neg hE] at hT
            subst hT
            rw [if_neg hE]
            generalize srvE c' left=e at *
            repeat' (first|refine vs (k:=?_)|refine qRg ?_|refine Nx.h ?_|(refine xc_cond rfl (fun hc=>?_) (fun hc=>?_))|fail)
            · first | refine rt (hq:=?_) | refine rt' (hq:=?_)
              exact ⟨rfl,trivial,fun h=>absurd h hE,hoX.step (hs.only0 rfl) (by simp)⟩
            · exact absurd (by simpa using hc) hE
        · exact absurd (by simpa using hc) hrun
    · rw [if_neg (by omega)] at hT
      subst hT
      rw [decide_eq_false l0]
      repeat' (first|refine vs (k:=?_)|refine ps (k:=?_)|refine Nx.h ?_|refine qCf ?_|fail)
      have ho:=hs.onlyF [] (by simp [q1]) (by simp [D0])
      exact cutB_exit () (by (repeat (first | exact agree_nil | (apply agree_cons;exact rfl)))) ⟨rfl,_,_,hC1.only ho,hR1.only ho,hF1,hFr1,hoW.step ho (by simp)⟩
  · clear hs
    rintro _ env w ⟨hT0,F2,Fr,a1,a2,a3,a4,hoX⟩
    have hs:=St.nil w
    repeat' (first|refine vs (k:=?_)|refine qRg ?_|refine Nx.h ?_|fail)
    first | refine rt (hq:=?_) | refine rt' (hq:=?_)
    exact ⟨by rw [hT0];rfl,trivial,fun _=>⟨F2,Fr,a1.only (hs.only0 rfl),a2.only (hs.only0 rfl),a3,a4⟩,hoX.step (hs.only0 rfl) (by simp)⟩
end Go.Proofs.YtkbcfknnieggbaaGreatDoorX

namespace Go.Proofs.YtkbcfknnieggbaaGreatDoorX
open Go Go.RowKit
attribute [local irreducible] XS XC XA thenE blockE retE loopE loopS cutB cutN doneE SE
def Told18 (w0:World) (cb:Nat) (F:List Nat) (rv:Value) (e:Int) (c c1:Cs) (r1:Rp) (w':World):Prop :=
  RvAt w' rv (tryR e c1 r1)∧(∃ F',CAt w' cb (tryC c e c1) F'∧∀ k∈F',k∈F∨w0.heap.size≤k)∧Only [cb] w0 w'
set_option maxHeartbeats 4000000 in
theorem tick_ret (cb:Nat) (c:Cs) (F:List Nat) (ns:Int) (w0:World) (h:CAt w0 cb c F) (hns:U64 ns) (hTp:(tickC c ns).2.2.p.length < 2000000000000) (hTg:(tickC c ns).2.2.g.length≤1000000) :
    Ret Tryz.prog 37 #[.pointer (some ⟨cb,0,none⟩),.int .u64 ns] w0 fun v w'=>∃ rv,v = .tuple #[rv,.int .i64 (tickC c ns).1]∧Told18 w0 cb F rv (tickC c ns).1 c (tickC c ns).2.1 (tickC c ns).2.2 w':=by
  have hs:=St.nil w0
  refine ret_of_xc Tryz.func37 (by kernel_rfl) rfl Tryz.ntmps37 rfl rfl rfl ?_
  refine xc_seq ?_
  refine xc_region ?_ ?_;exact rfl
  refine bx hs (k:=?_);intro b6 w _ hs
  refine al hs (k:=?_);intro b10 w hz hs
  repeat' (first|refine vs (k:=?_)|refine qRg ?_|refine Nx.h ?_|fail)
  have ho:=hs.only0 rfl
  have hz:=ho.size
  have x6:=hs.get (b:=b6) (by repeat (first | exact At.head | (with_reducible apply At.tail)))
  have x10:=hs.get (b:=b10) (by repeat (first | exact At.head | (with_reducible apply At.tail)))
  have hCw:=h.only ho
  have hb:=hs.new _ List.mem_cons_self rfl
  simp only at hb
  (with_reducible apply xs_call);exact rfl;exact rfl;exact try_ret cb c F _ hCw 78 [.pointer (some ⟨b6,0,none⟩)] [] (fun _=>True) (tickC c ns).1 (tickC c ns).2.1 (tickC c ns).2.2 (fun _ _ _ _ _ _=>trivial) (by simp) hTg (fun w1 ho1=>tick1_ret b6 c ns _ w1 hns (ho1.block x6 (by simp)) hTp hTg)
  rintro v w2 ⟨rv,rfl,_,hRv,⟨F',hC',hF'⟩,ho2⟩
  obtain ⟨vg,vp,Gg,Gp,rfl,p1,p2⟩:=hRv
  obtain ⟨ag,cg,rfl⟩:=slv_form p1
  obtain ⟨ap,cp,rfl⟩:=slv_form p2
  have x2:=ho2.block x10 (fun hm=>by obtain rfl:=List.mem_singleton.1 hm;exact hCw.not x10 rfl (by obtain ⟨_,_,rfl,_⟩:=hCw;simp))
  clear hs
  have hs:=(St.nil w2).trackT x2
  repeat' (first|refine vs (k:=?_)|(refine stA hs (k:=?_);intro w hs)|refine Nx.h ?_|fail)
  first | refine rt (hq:=?_) | refine rt' (hq:=?_)
  have ho3:Only [b10] w2 _:=hs.onlyF [b10] (by simp) (by simp [D0])
  exact ⟨_,rfl,⟨_,_,Gg,Gp,rfl,p1.keep ho3 (fun k hk hm=>by obtain rfl:=List.mem_singleton.1 hm;exact slv_ne p1 x2 (by decide) hk),p2.keep ho3 (fun k hk hm=>by obtain rfl:=List.mem_singleton.1 hm;exact slv_ne p2 x2 (by decide) hk)⟩,⟨F',hC'.keepD ho3 (fun k hk hm=>by obtain rfl:=List.mem_singleton.1 hm;exact hC'.not x2 rfl hk),fun k hk=>by
    rcases hF' k hk with h | h
    · exact .inl h
    · exact .inr (by omega)⟩,((ho.weaken (by simp)).step ho2 (fun k hk => .inl hk)).step ho3 (fun k hk => .inr (by obtain rfl:=List.mem_singleton.1 hk;exact hb))⟩
end Go.Proofs.YtkbcfknnieggbaaGreatDoorX

namespace Go.Proofs.YtkbcfknnieggbaaGreatDoorX
open IB (IT)
/-! Cores. -/
/-! Ticks. -/
theorem less_in {r:Rq} (h:r.In) {p:Pt} {n:Int} (hp:p.In) (h0:0≤n) (h1:n≤r.left):(lessR r p n).In:=by
  refine ⟨⟨hp,h.1.2.1,h.1.2.2⟩,?_,h.2.2⟩
  show U64 (bif decide (r.left - n=0) then r.slice else r.left - n)
  cases decide (r.left - n=0) with
  | true=>exact h.2.2
  | false =>
    have:=h.2.1
    show U64 (r.left - n)
    unfold U64 at *
    omega
theorem srvO_in {c:Cs} {most:Int} (hm:0≤most) {u:Rq × Bool} (h:srvO c most=some u):u.1.In:=by
  unfold srvO serveR at h
  split at h
  · rename_i hc
    have hin:=getL_in c.A.l c.run
    split at h
    · cases h
    · rename_i p hp
      have hless:(lessR (getL c.A.l c.run) p (srvN c most)).In:=less_in hin (at_some hp).1 (by
        unfold srvN lessN
        have:=hin.2.1
        unfold U64 at this
        split <;> omega) hc.2.2
      cases e:setR (lessR (getL c.A.l c.run) p (srvN c most)) with
      | none=>rw [e] at h;cases h
      | some q =>
        rw [e] at h
        cases h
        exact (setR_in hless e).1
  · cases h
theorem zero_right:(toRT Rq.zero).1.right=false:=by decide
theorem put_zero (A:As):putE A (toRT .zero)=2∧putA A (toRT .zero)=A:=by
  have e:putE A (toRT .zero)=2:=by unfold putE layE;rw [zero_right];rfl
  exact ⟨e,by unfold putA;rw [e];rfl⟩
end Go.Proofs.YtkbcfknnieggbaaGreatDoorX

namespace Go.Proofs.YtkbcfknnieggbaaGreatDoorX
open IB (IT)
def leaveC (c:Cs) (id:Int):Int × Cs:=if (findR c.A.l id).isSome then (0,⟨extA c.A id,c.run,carryW c.carr (lagA c.A id)⟩) else (14,c)
def sleepC (c:Cs) (id:Int):Int × Cs:=match findR c.A.l id with
  | none=>(14,c)
  | some a=>if a.1.asleep=true then (6,c) else if owedA c.A id < 0 then (0,⟨rouA c.A id true,c.run,c.carr⟩) else leaveC c id
def wakeC (c:Cs) (id:Int):Int × Cs:=match findR c.A.l id with
  | none=>(14,c)
  | some a=>if a.1.asleep=true then (0,⟨rouA c.A id false,c.run,c.carr⟩) else (6,c)
def weighOk (A:As) (r:Rq) (q:Int):Option Rq:=(weM (mA A) r.i.p q).bind fun p=>moveR r p
def weighS (c:Cs) (id:Int):Option Rq→Int × Cs
  | none=>(8,c)
  | some y=>(putE c.A (toRT y),⟨putA c.A (toRT y),c.run,carryW c.carr (lagA c.A id)⟩)
def weighC (c:Cs) (id q:Int):Int × Cs :=
  if mayW q=false then (2,c) else match findR c.A.l id with
  | none=>(14,c)
  | some a=>weighS c id (weighOk c.A a.1 q)
def sliceC (c:Cs) (id ns:Int):Int × Cs :=
  if mayN ns=false then (2,c) else match findR c.A.l id with
  | none=>(14,c)
  | some a=>(putE c.A (toRT ((sliceR a.1 ns).getD .zero)),⟨putA c.A (toRT ((sliceR a.1 ns).getD .zero)),c.run,c.carr⟩)
theorem move_in {r:Rq} (h:r.In) {p:Pt} (hp:p.In) {y:Rq} (e:moveR r p=some y):y.In:=by
  unfold moveR at e
  cases k:r.right with
  | false=>rw [k] at e;cases e
  | true=>rw [k] at e;exact (setR_in (⟨⟨hp,h.1.2⟩,h.2⟩:Rq.In ⟨⟨p,r.i.id,r.i.d⟩,r.left,r.slice,r.asleep⟩) e).1
theorem slice_in {r:Rq} (h:r.In) {n:Int} (hn:U64 n) {y:Rq} (e:sliceR r n=some y):y.In:=by
  unfold sliceR at e
  cases k:r.right with
  | false=>rw [k] at e;cases e
  | true=>rw [k] at e;exact (setR_in (⟨h.1,h.2.1,hn⟩:Rq.In ⟨r.i,r.left,n,r.asleep⟩) e).1
theorem weM_in {m:Mn} {p:Pt} {q:Int} {y:Pt} (e:weM m p q=some y):y.In:=by
  unfold weM at e
  split at e
  · exact (at_some e).1
  · cases e
/-! An act, with its report. -/
structure Ac18 where
  d:Int
  id:Int
  w:Int
  ns:Int
  lag:Int
def Ac18.In (a:Ac18):Prop:=(0≤a.d∧a.d < 256)∧In64 a.id∧U32 a.w∧U64 a.ns∧In64 a.lag
instance:Inhabited Ac18:=⟨⟨0,0,0,0,0⟩⟩
def triedC (c:Cs) (x:Int × Cs × Rp):Int × Cs × Rp:=(x.1,tryC c x.1 x.2.1,tryR x.1 x.2.1 x.2.2)
def doC (c:Cs) (a:Ac18):Int × Cs × Rp :=
  if a.d % 10 < 2 then ((joinC c a.id a.w a.ns a.lag).1,(joinC c a.id a.w a.ns a.lag).2,.none)
  else if a.d % 10=2 then ((leaveC c a.id).1,(leaveC c a.id).2,.none)
  else if a.d % 10=3 then ((sleepC c a.id).1,(sleepC c a.id).2,.none)
  else if a.d % 10=4 then ((wakeC c a.id).1,(wakeC c a.id).2,.none)
  else if a.d % 10=5 then ((weighC c a.id a.w).1,(weighC c a.id a.w).2,.none)
  else if a.d % 10=6 then ((sliceC c a.id a.ns).1,(sliceC c a.id a.ns).2,.none)
  else tickC c a.ns
def actC (c:Cs) (a:Ac18):Int × Cs × Rp:=triedC c (doC c a)
end Go.Proofs.YtkbcfknnieggbaaGreatDoorX

namespace Go.Proofs.YtkbcfknnieggbaaGreatDoorX
open IB (IT)
def sumOv (m:Mn):List It→Int
  | []=>0
  | x :: l=>ovL m x.p+sumOv m l
theorem sumOv_is (m:Mn):∀ l:List It,sumOv m l=m.a*sumW l - m.w*sumD m.b l
  | []=>by show (0:Int)=m.a*0 - m.w*0;simp
  | x :: l=>by
    show ovL m x.p+sumOv m l=m.a*(x.p.w+sumW l) - m.w*(dist x.p m.b+sumD m.b l)
    rw [sumOv_is m l]
    unfold ovL
    rw [Int.mul_add,Int.mul_add,Int.mul_comm (dist x.p m.b) m.w]
    omega
theorem sumOv_neg (m:Mn):∀ {l:List It},l≠[]→(∀ x∈l,ovL m x.p < 0)→sumOv m l < 0
  | [],h,_=>absurd rfl h
  | x :: l,_,h=>by
    show ovL m x.p+sumOv m l < 0
    have h1:=h x List.mem_cons_self
    by_cases e:l=[]
    · subst e;show ovL m x.p+0 < 0;omega
    · have:=sumOv_neg m e fun y hy=>h y (List.mem_cons_of_mem _ hy)
      omega
theorem Rep.someE {s:Ss} {A:As} (h:Rep s A) (e:A.l≠[]):∃ a∈A.l,0≤ovA A a:=by
  have hc:=h.cen e
  rw [h.mean e] at hc
  refine Classical.byContradiction fun hn=>?_
  have hneg:=sumOv_neg (meanL (its A.l)) (its_ne e) fun x hx=>by
    obtain ⟨a,ha,rfl⟩:=List.mem_map.1 hx
    rcases Int.lt_or_le (ovL (meanL (its A.l)) a.1.i.p) 0 with k | k
    · exact k
    · exact absurd ⟨a,ha,k⟩ hn
  rw [sumOv_is,← hc.is.a,← hc.is.w,Int.mul_comm] at hneg
  omega
theorem first_some:∀ {l:List RT},l≠[]→∃ a∈l,firstDue l=some a
  | [],h=>absurd rfl h
  | a :: l,_=>by
    suffices H:∀ (l:List RT) (a:RT) (L:List RT),a∈L→(∀ x∈l,x∈L)→l.foldl (fun a b=>bif due b.1.i a.1.i then b else a) a∈L from
      ⟨_,H l a (a :: l) List.mem_cons_self (fun x hx=>List.mem_cons_of_mem _ hx),rfl⟩
    intro l
    induction l with
    | nil=>intro a L ha _;exact ha
    | cons b l ih =>
      intro a L ha hl
      rw [List.foldl_cons]
      refine ih _ L ?_ fun x hx=>hl x (List.mem_cons_of_mem _ hx)
      cases due b.1.i a.1.i with
      | true=>exact hl b List.mem_cons_self
      | false=>exact ha
theorem Rep.soonSome {s:Ss} {A:As} (h:Rep s A) (e:A.l≠[]):∃ a∈A.l,soonA A=some a∧0≤ovA A a:=by
  obtain ⟨b,hb,hb0⟩:=h.someE e
  have hne:eligA A≠[]:=fun k=>by
    have:b∈eligA A:=List.mem_filter.2 ⟨hb,by simpa using hb0⟩
    rw [k] at this;cases this
  obtain ⟨a,ha,hf⟩:=first_some hne
  obtain ⟨h1,h2⟩:=List.mem_filter.1 ha
  exact ⟨a,h1,hf,by simpa using h2⟩
theorem soon_nil {A:As} (e:A.l=[]):soonA A=none:=by unfold soonA eligA;rw [e];rfl
theorem Rep.w_pos {s:Ss} {A:As} (h:Rep s A) (e:A.l≠[]):0 < (mA A).w:=by
  have hc:=h.cen e
  rw [h.mean e] at hc
  have:=hc.a0
  have:=hc.a1
  unfold mA
  omega
theorem ext_l {A:As} {a:RT} (hf:findR A.l (idR a)=some a):(extA A (idR a)).l=delR (idR a) A.l:=by
  unfold extA
  rw [hf];rfl
theorem del_sub {i:Int} {l:List RT}:∀ x∈delR i l,x∈l∧idR x≠i:=fun x hx=>by
  obtain ⟨h1,h2⟩:=List.mem_filter.1 hx
  exact ⟨h1,by simpa using h2⟩
structure Flushed (A:As) (G:List Gn) (B:As):Prop where
  none:B.l.find? (goesA B)=none
  sub:∀ x∈B.l,x∈A.l
  gone:∀ g∈G,g.r.asleep=true∧0≤g.lag∧g.id∈A.l.map idR∧∀ x∈B.l,idR x≠g.id
  len:B.l.length+G.length=A.l.length
  awake:∀ x∈A.l,x.1.asleep=false→x∈B.l
theorem Rep.flushed:∀ {n:Nat} {s:Ss} {A:As},Rep s A→A.l.length≤n→Flushed A (Go.Proofs.YtkbcfknnieggbaaGreatDoorX.flushN n A).1 (Go.Proofs.YtkbcfknnieggbaaGreatDoorX.flushN n A).2
  | 0,s,A,h,hn=>by
    have e:A.l=[]:=List.eq_nil_of_length_eq_zero (Nat.le_zero.1 hn)
    exact ⟨(by show A.l.find? _=_;rw [e];rfl),fun x hx=>hx,fun g hg=>(by cases hg),(by show A.l.length+0=_;omega),fun x hx _=>hx⟩
  | n+1,s,A,h,hn=>by
    unfold Go.Proofs.YtkbcfknnieggbaaGreatDoorX.flushN
    cases e:A.l.find? (goesA A) with
    | none=>exact ⟨e,fun x hx=>hx,fun g hg=>(by cases hg),(by show A.l.length+0=_;omega),fun x hx _=>hx⟩
    | some a =>
      have ha:=List.mem_of_find?_eq_some e
      have hgo:=List.find?_some e
      have hf:=findR_at h.o ha
      obtain ⟨_,_,e3⟩:=h.exit hf
      have hl:=(del_perm h.o hf).length_eq
      have hx:=ext_l hf
      simp only [List.length_cons] at hl
      have ih:=e3.flushed (n:=n) (by rw [hx];omega)
      unfold goesA at hgo
      rw [Bool.and_eq_true,decide_eq_true_iff] at hgo
      have hw:=h.w_pos (fun k=>by rw [k] at ha;cases ha)
      refine ⟨ih.none,fun x hx'=>?_,fun g hg=>?_,?_,fun x hx' hs=>ih.awake x ?_ hs⟩
      · have:=ih.sub x hx'
        rw [hx] at this
        exact (del_sub x this).1
      · rcases List.mem_cons.1 hg with rfl | hg
        · refine ⟨hgo.1,Int.ediv_nonneg hgo.2 (by omega),List.mem_map_of_mem ha,fun x hx'=>?_⟩
          have:=ih.sub x hx'
          rw [hx] at this
          exact (del_sub x this).2
        · obtain ⟨k1,k2,k3,k4⟩:=ih.gone g hg
          refine ⟨k1,k2,?_,k4⟩
          obtain ⟨y,hy,hyi⟩:=List.mem_map.1 k3
          rw [hx] at hy
          exact List.mem_map.2 ⟨y,(del_sub y hy).1,hyi⟩
      · have:=ih.len
        rw [hx] at this
        simp only [List.length_cons]
        omega
      · rw [hx]
        refine List.mem_filter.2 ⟨hx',?_⟩
        simp only [decide_eq_true_eq]
        intro k
        have:x=a:=h.o.inj x hx' a ha k
        subst this
        rw [hs] at hgo
        cases hgo.1
theorem Rep.flushF {s:Ss} {A:As} (h:Rep s A):Flushed A (flushA A).1 (flushA A).2:=h.flushed (Nat.le_refl _)
theorem Flushed.low {A B:As} {G:List Gn} (h:Flushed A G B):∀ x∈B.l,x.1.asleep=true→ovA B x < 0:=fun x hx hs=>by
  have:=List.find?_eq_none.1 h.none x hx
  unfold goesA at this
  rw [hs] at this
  simpa using this
theorem rep_id_pos {s:Ss} {A:As} (h:Rep s A):∀ a∈A.l,0 < idR a:=fun a ha=>(iright_all a.2.1 (rright_i (h.r a ha))).2.2.2.1
theorem Rep.runs {s:Ss} {A:As} (h:Rep s A):(run1 A=0∧(flushA A).2.l=[])∨∃ a∈(flushA A).2.l,run1 A=idR a∧0 < idR a∧a.1.asleep=false∧0≤ovA (flushA A).2 a∧soonA (flushA A).2=some a:=by
  have hF:=h.flushF
  obtain ⟨s',_,h'⟩:=h.flush
  unfold run1
  by_cases e:(flushA A).2.l=[]
  · exact .inl ⟨by rw [soon_nil e];rfl,e⟩
  · obtain ⟨a,ha,hs,h0⟩:=h'.soonSome e
    refine .inr ⟨a,ha,by rw [hs];rfl,rep_id_pos h' a ha,?_,h0,hs⟩
    cases k:a.1.asleep with
    | false=>rfl
    | true=>have:=hF.low a ha k;omega
end Go.Proofs.YtkbcfknnieggbaaGreatDoorX

namespace Go.Proofs.YtkbcfknnieggbaaGreatDoorX
open IB (IT)
end Go.Proofs.YtkbcfknnieggbaaGreatDoorX

namespace Go.Proofs.YtkbcfknnieggbaaGreatDoorX
open IB (IT)
theorem tick_parts:∀ (k:Nat) (left:Int) (c:Cs) (r:Rp),0≤left→left≤1099511627776→(((tickN k left c r).2.2.p.length:Nat):Int)≤r.p.length+left
  | 0,left,c,r,h0,_=>by show ((r.p.length:Nat):Int)≤_;omega
  | k+1,left,c,r,h0,hl=>by
    unfold tickN
    split
    · split
      · rename_i hs
        have h1:=srv_step (c:=c) (most:=left) ⟨h0,by omega⟩ hs
        have ih:=tick_parts k (left - srvN c left) (setC (srvA c left)) (srvR c left r) (by omega) (by omega)
        have e:(srvR c left r).p.length=r.p.length+1:=by show (r.p ++ [srvP c left]).length=_;simp
        rw [e] at ih
        omega
      · show ((r.p.length:Nat):Int)≤_;omega
    · show ((r.p.length:Nat):Int)≤_;omega
theorem putE_found {A:As} {r:RT} (h:putE A r=0):r.1.right=true∧∃ a,findR A.l (idR r)=some a:=by
  unfold putE layE at h
  cases hr:r.1.right with
  | false=>rw [hr] at h;cases h
  | true =>
    rw [hr] at h
    have h:changeA A r.1.i=0:=h
    unfold changeA at h
    rw [rright_i hr] at h
    refine ⟨rfl,?_⟩
    cases e:findR A.l (idR r) with
    | some a=>exact ⟨a,rfl⟩
    | none =>
      rw [show r.1.i.id=idR r from rfl,e] at h
      cases h
theorem put_l {A:As} {r:RT} (h:putE A r=0):(putA A r).l=putR r A.l:=by unfold putA;rw [if_pos h]
theorem put_len {s:Ss} {A:As} (h:Rep s A) (r:RT):(putA A r).l.length=A.l.length:=by
  by_cases e:putE A r=0
  · obtain ⟨_,a,ha⟩:=putE_found e
    rw [put_l e,(put_perm2 h.o).length_eq,(del_perm h.o ha).length_eq];rfl
  · unfold putA;rw [if_neg e]
theorem rep_srv {s:Ss} {c:Cs} (h:Rep s c.A) (m:Int):∃ s',Rep s' (srvA c m).A:=⟨_,(h.put (srvY c m)).2.1⟩
theorem tick_gone:∀ (k:Nat) (left:Int) (c:Cs) (r:Rp),(∃ s,Rep s c.A)→(tickN k left c r).2.2.g.length+(tickN k left c r).2.1.A.l.length=r.g.length+c.A.l.length∧∃ s,Rep s (tickN k left c r).2.1.A
  | 0,left,c,r,h=>⟨rfl,h⟩
  | k+1,left,c,r,h=>by
    unfold tickN
    split
    · split
      · obtain ⟨s,hs⟩:=h
        obtain ⟨s1,h1⟩:=rep_srv hs left
        obtain ⟨s2,_,h2⟩:=h1.flush
        have hF:=h1.flushF.len
        have hp:(srvA c left).A.l.length=c.A.l.length:=put_len hs _
        obtain ⟨i1,i2⟩:=tick_gone k (left - srvN c left) (setC (srvA c left)) (srvR c left r) ⟨s2,h2⟩
        refine ⟨?_,i2⟩
        rw [i1]
        show (r.g ++ goneC (srvA c left)).length+(flushA (srvA c left).A).2.l.length=_
        rw [List.length_append]
        show r.g.length+(flushA (srvA c left).A).1.length+(flushA (srvA c left).A).2.l.length=_
        omega
      · exact ⟨rfl,h⟩
    · exact ⟨rfl,h⟩
theorem setR_keeps {r u:Rq} (h:setR r=some u):u.i.id=r.i.id∧u.asleep=r.asleep:=by
  unfold setR at h
  cases k:(fixR r).right with
  | false=>rw [k] at h;cases h
  | true =>
    rw [k] at h
    cases h
    unfold fixR
    cases mayN r.left <;> exact ⟨rfl,rfl⟩
theorem srvO_keeps {c:Cs} {m:Int} {u:Rq × Bool} (h:srvO c m=some u):u.1.i.id=(getL c.A.l c.run).i.id∧u.1.asleep=(getL c.A.l c.run).asleep:=by
  unfold srvO serveR at h
  split at h
  · split at h
    · cases h
    · rename_i p hp
      cases e:setR (lessR (getL c.A.l c.run) p (srvN c m)) with
      | none=>rw [e] at h;cases h
      | some q =>
        rw [e] at h
        cases h
        obtain ⟨a1,a2⟩:=setR_keeps e
        exact ⟨a1,a2⟩
  · cases h
end Go.Proofs.YtkbcfknnieggbaaGreatDoorX

namespace Go.Proofs.YtkbcfknnieggbaaGreatDoorX
open Go Go.RowKit
def actsC (c:Cs) (l:List Ac18):Cs:=l.foldl (fun c a=>(actC c a).2.1) c
theorem actsC_snoc (c:Cs) (l:List Ac18) (a:Ac18):actsC c (l ++ [a])=(actC (actsC c l) a).2.1:=by unfold actsC;rw [List.foldl_append];rfl
def RepC (c:Cs):Prop:=∃ s,Rep s c.A
theorem repC_set {c:Cs} (h:RepC c):RepC (setC c):=by
  obtain ⟨s,hs⟩:=h
  obtain ⟨s',_,h'⟩:=hs.flush
  exact ⟨s',h'⟩
theorem repC_leave {c:Cs} (h:RepC c) (id:Int):RepC (leaveC c id).2:=by
  obtain ⟨s,hs⟩:=h
  unfold leaveC
  split
  · rename_i k
    cases e:findR c.A.l id with
    | none=>rw [e] at k;cases k
    | some a =>
      obtain ⟨_,_,h3⟩:=hs.exit e
      exact ⟨_,h3⟩
  · exact ⟨s,hs⟩
theorem repC_sleep {c:Cs} (h:RepC c) (id:Int):RepC (sleepC c id).2:=by
  have hl:=repC_leave h id
  obtain ⟨s,hs⟩:=h
  unfold sleepC
  cases findR c.A.l id with
  | none=>exact ⟨s,hs⟩
  | some a =>
    show RepC (if a.1.asleep=true then (6,c) else if owedA c.A id < 0 then (0,(⟨rouA c.A id true,c.run,c.carr⟩:Cs)) else leaveC c id).2
    split
    · exact ⟨s,hs⟩
    · split
      · exact ⟨_,hs.rouse id true⟩
      · exact hl
theorem repC_wake {c:Cs} (h:RepC c) (id:Int):RepC (wakeC c id).2:=by
  obtain ⟨s,hs⟩:=h
  unfold wakeC
  cases findR c.A.l id with
  | none=>exact ⟨s,hs⟩
  | some a =>
    show RepC (if a.1.asleep=true then (0,(⟨rouA c.A id false,c.run,c.carr⟩:Cs)) else (6,c)).2
    split
    · exact ⟨_,hs.rouse id false⟩
    · exact ⟨s,hs⟩
theorem repC_weigh {c:Cs} (h:RepC c) (id q:Int):RepC (weighC c id q).2:=by
  obtain ⟨s,hs⟩:=h
  unfold weighC
  split
  · exact ⟨s,hs⟩
  · cases findR c.A.l id with
    | none=>exact ⟨s,hs⟩
    | some a =>
      show RepC (weighS c id (weighOk c.A a.1 q)).2
      cases weighOk c.A a.1 q with
      | none=>exact ⟨s,hs⟩
      | some y=>exact ⟨_,(hs.put (toRT y)).2.1⟩
theorem repC_slice {c:Cs} (h:RepC c) (id ns:Int):RepC (sliceC c id ns).2:=by
  obtain ⟨s,hs⟩:=h
  unfold sliceC
  split
  · exact ⟨s,hs⟩
  · cases findR c.A.l id with
    | none=>exact ⟨s,hs⟩
    | some a=>exact ⟨_,(hs.put _).2.1⟩
theorem repC_join {c:Cs} (h:RepC c) (id q ns lag:Int):RepC (joinC c id q ns lag).2:=by
  obtain ⟨s,hs⟩:=h
  unfold joinC
  split
  · exact ⟨s,hs⟩
  · split
    · exact ⟨s,hs⟩
    · split
      · exact ⟨s,hs⟩
      · cases joinOk c id q ns lag with
        | none=>exact ⟨s,hs⟩
        | some r =>
          show RepC (if entE c.A r=0 then (0,(⟨entA c.A r,c.run,carryW c.carr (lagA (entA c.A r) id)⟩:Cs)) else (entE c.A r,c)).2
          split
          · exact ⟨_,(hs.enter r).2⟩
          · exact ⟨s,hs⟩
theorem repC_tick {c:Cs} (h:RepC c) (ns:Int):RepC (tickC c ns).2.1:=by
  unfold tickC
  split
  · exact (tick_gone _ ns c .none h).2
  · exact h
theorem repC_do {c:Cs} (h:RepC c) (a:Ac18):RepC (doC c a).2.1:=by
  unfold doC
  repeat' split
  · exact repC_join h _ _ _ _
  · exact repC_leave h _
  · exact repC_sleep h _
  · exact repC_wake h _
  · exact repC_weigh h _ _
  · exact repC_slice h _ _
  · exact repC_tick h _
end Go.Proofs.YtkbcfknnieggbaaGreatDoorX

namespace Go.Proofs.YtkbcfknnieggbaaGreatDoorX
open Go Go.RowKit
abbrev Ac18.cells (a:Ac18):List Value:=[.int .u8 a.d,.int .i64 a.id,.int .u32 a.w,.int .u64 a.ns,.int .i64 a.lag]
end Go.Proofs.YtkbcfknnieggbaaGreatDoorX

namespace Go.Proofs.YtkbcfknnieggbaaGreatDoorX
open Go Go.RowKit Go.ChangeShapes Go.WideShapes Go.ChangeAt
theorem shape_act18 : Tryz.prog.underlying 68 = some (.struct #[{ name := "Do", type := 5, offset := 0, embedded := false, tag := "", pkgPath := "", byteOffset := 0 }, { name := "ID", type := 3, offset := 1, embedded := false, tag := "", pkgPath := "", byteOffset := 8 }, { name := "W", type := 45, offset := 2, embedded := false, tag := "", pkgPath := "", byteOffset := 16 }, { name := "Ns", type := 22, offset := 3, embedded := false, tag := "", pkgPath := "", byteOffset := 24 }, { name := "Lag", type := 2, offset := 4, embedded := false, tag := "", pkgPath := "", byteOffset := 32 }]) := by kernel_rfl
theorem cells_act18:Tryz.prog.cellsOf 68=5:=by kernel_rfl
set_option maxRecDepth 100000 in
theorem dec_act18 {H:Type} {enc:TypeId × Value→H} {W:World} {base:Nat} {spare:Nat→Bool} {held:Bool} (fuel:Nat) (cs:List Value) (x) (h:DataW.trod enc Tryz.prog W base spare held fuel 68 cs=some x):∃ q:Ac18,cs=[.int .u8 q.d,.int .i64 q.id,.int .u32 q.w,.int .u64 q.ns,.int .i64 q.lag]∧Ac18.In q:=by
  obtain ⟨xs,n,_,_,hl,hlen,hq⟩:=DataW.trod_struct shape_act18 h
  rw [cells_act18] at hl
  match cs,hl with
  | [v0,v1,v2,v3,v4],_ =>
    match xs,hlen with
    | [y0,y1,y2,y3,y4],_ =>
      have h0:=hq 0 _ rfl
      obtain ⟨a0,e0,_,w0⟩:=DataW.trod_int (t:=5) (k := .u8) (by kernel_rfl) h0
      replace w0:=rng_u8 w0
      have q0:v0 = .int .u8 a0:=by
        have e:List.take (Tryz.prog.cellsOf 5) (List.drop 0 [v0,v1,v2,v3,v4])=[.int .u8 a0]:=e0
        rw [show Tryz.prog.cellsOf 5=1 by kernel_rfl] at e;simpa using e
      have h1:=hq 1 _ rfl
      obtain ⟨a1,e1,_,w1⟩:=DataW.trod_int (t:=3) (k := .i64) (by kernel_rfl) h1
      replace w1:=rng_i64 w1
      have q1:v1 = .int .i64 a1:=by
        have e:List.take (Tryz.prog.cellsOf 3) (List.drop 1 [v0,v1,v2,v3,v4])=[.int .i64 a1]:=e1
        rw [show Tryz.prog.cellsOf 3=1 by kernel_rfl] at e;simpa using e
      have h2:=hq 2 _ rfl
      obtain ⟨a2,e2,_,w2⟩:=DataW.trod_int (t:=45) (k := .u32) (by kernel_rfl) h2
      replace w2:=rng_u32 w2
      have q2:v2 = .int .u32 a2:=by
        have e:List.take (Tryz.prog.cellsOf 45) (List.drop 2 [v0,v1,v2,v3,v4])=[.int .u32 a2]:=e2
        rw [show Tryz.prog.cellsOf 45=1 by kernel_rfl] at e;simpa using e
      have h3:=hq 3 _ rfl
      obtain ⟨a3,e3,_,w3⟩:=DataW.trod_int (t:=22) (k := .u64) (by kernel_rfl) h3
      replace w3:=rng_u64 w3
      have q3:v3 = .int .u64 a3:=by
        have e:List.take (Tryz.prog.cellsOf 22) (List.drop 3 [v0,v1,v2,v3,v4])=[.int .u64 a3]:=e3
        rw [show Tryz.prog.cellsOf 22=1 by kernel_rfl] at e;simpa using e
      have h4:=hq 4 _ rfl
      obtain ⟨a4,e4,_,w4⟩:=DataW.trod_int (t:=2) (k := .i64) (by kernel_rfl) h4
      replace w4:=rng_i64 w4
      have q4:v4 = .int .i64 a4:=by
        have e:List.take (Tryz.prog.cellsOf 2) (List.drop 4 [v0,v1,v2,v3,v4])=[.int .i64 a4]:=e4
        rw [show Tryz.prog.cellsOf 2=1 by kernel_rfl] at e;simpa using e
      subst q0
      subst q1
      subst q2
      subst q3
      subst q4
      exact ⟨⟨a0,a1,a2,a3,a4⟩,rfl,⟨w0,w1,w2,w3,w4⟩⟩
set_option maxRecDepth 100000 in
theorem open_acts18 {H:Type} {enc:TypeId × Value→H} {W:World} {r:Reach} {b0 base:Nat} {spare:Nat→Bool} {held:Bool} {v:Value} {d:DataW H} {p:List MemPlace} (hv:Value.okWide Tryz.prog W r b0 62 v)
    (h:DataW.Trod enc Tryz.prog W base spare held 62 v d p):∃ xs:List Ac18,LsX W 5 v (xs.map Ac18.cells)∧∀ a∈xs,a.In :=
  open_rows (cells:=Ac18.cells) (by kernel_rfl) cells_act18 (by decide) (fun _=>rfl) dec_act18 hv h
end Go.Proofs.YtkbcfknnieggbaaGreatDoorX

namespace Go.Proofs.YtkbcfknnieggbaaGreatDoorX
open Go Go.RowKit
attribute [local irreducible] XS XC XA thenE blockE retE loopE loopS cutB cutN doneE SE
theorem bad_of {w0 w':World} {G:List Nat} {J:Int × Cs} {c:Cs} {n:Int} {P Q:Prop} (e:J=(n,c)) (hn:n≠0) (hq:Q) (ho:Only [] w0 w'):Value.int .i64 n = .int .i64 J.1∧Q∧(J.1=0→P)∧Only G w0 w':=by
  subst e;exact ⟨rfl,hq,fun h=>absurd h hn,ho.weaken (by simp)⟩
theorem get_of (l:List RT) (id:Int):∃ x bs,getL l id=x∧(findR l id).isSome=bs∧x.In∧((bs=false∧findR l id=none)∨∃ a,bs=true∧findR l id=some a∧x=a.1):=by
  cases e:findR l id with
  | none=>exact ⟨_,_,rfl,rfl,getL_in _ _,.inl ⟨rfl,rfl⟩⟩
  | some a=>exact ⟨_,_,rfl,rfl,getL_in _ _,.inr ⟨a,rfl,rfl,by unfold getL;rw [e]⟩⟩
set_option maxHeartbeats 8000000 in
theorem wake1_ret (b2:Nat) (c:Cs) (id:Int) (wb w0:World) (hid:In64 id) (B2:w0.heap[b2]?=some (.cells #[.int .i64 id] 3 (0,0))) :
    DoAt wb w0 116 [.pointer (some ⟨b2,0,none⟩)] [] (fun _=>True) c (wakeC c id).1 (wakeC c id).2 .none:=by
  intro cb rb F hC hR hFn hrb
  have hC0:=hC
  have hR0:=hR
  obtain ⟨sb,Fs,rfl,h1,hS,h3,h4⟩:=hC
  obtain ⟨x,bs,ex,eb,hxin,hcs⟩:=get_of c.A.l id
  generalize hJ:wakeC c id=J
  have hs:=((St.nil w0).trackT h1).trackT B2
  refine ret_of_xc Tryz.func116 (by kernel_rfl) rfl Tryz.ntmps116 rfl rfl rfl ?_
  repeat' (first|refine vs (k:=?_)|refine qRg ?_|refine Nx.h ?_|fail)
  refine dr [] hs (k:=?_);intro hX w hs
  refine tk 0 hX (k:=?_)
  refine tk 1 hX (k:=?_)
  refine tk 2 hX (k:=?_)
  refine tk 3 hX (k:=?_)
  refine tk 4 hX (k:=?_)
  refine pd0 9 6 hs (k:=?_);intro f X w hp;have hs:=hp.st
  apply xa_pend 5 9 (f:=f) (X:=X) hX hp;exact rfl;exact rfl;(apply makes_alloc tabOk;exact rfl);kernel_rfl;kernel_rfl;kernel_rfl;kernel_rfl;(intro X Y;(repeat (first | exact pgg_base | refine pgg_step ?_ (by exact rfl))));(intro w' hs;first|exact se_hold hs.hold|exact se_hold hs.hold.tail|exact se_done rfl);intro f X w hp;have hs:=hp.st
  have ho:=hs.onlyF [] (by simp [h1,B2]) (by simp [D0])
  (with_reducible apply xs_call);exact rfl;exact rfl;exact areq_ret sb c.A Fs id _ (hS.only ho) hid
  rw [ex,eb]
  rintro v w' ⟨rfl,ho⟩;replace hp:=hp.only ho;replace hs:=hp.st;repeat' (first|refine Nx.h ?_|fail)
  refine dn (k:=?_)
  refine tk 6 hX (hc:=by cases f <;> kernel_rfl) (k:=?_)
  refine tk 7 hX (hc:=by cases f <;> kernel_rfl) (k:=?_)
  refine tk 8 hX (hc:=by cases f <;> kernel_rfl) (k:=?_)
  apply xa_pendE 9 (f:=f) (X:=X) hX hp;exact rfl;(apply makes_alloc tabOk;exact rfl);kernel_rfl;kernel_rfl;(intro X Y;(repeat (first | exact pgg_base | refine pgg_step ?_ (by exact rfl))));(intro w' hs;first|exact se_hold hs.hold|exact se_hold hs.hold.tail|exact se_done rfl);intro b w hI hs
  refine dt 10 hX (k:=?_)
  repeat' (first|(refine stA hs (k:=?_);intro w hs)|refine Nx.h ?_|fail)
  refine dn (k:=?_)
  refine tk 11 hX (k:=?_)
  refine en (k:=?_)
  rcases hcs with ⟨hb,e⟩ | ⟨a,hb,e,hx⟩
  · subst hb
    repeat' (first|refine vs (k:=?_)|refine qRg ?_|refine Nx.h ?_|refine qCt ?_|fail)
    first | refine rt (hq:=?_) | refine rt' (hq:=?_)
    exact bad_of (n:=14) (by rw [← hJ];unfold wakeC;rw [e]) (by decide) trivial (hs.onlyF [] (by simp [h1,B2]) (by simp [D0]))
  · subst hb
    repeat' (first|refine vs (k:=?_)|refine qRg ?_|refine Nx.h ?_|refine qCf ?_|(refine xc_cond rfl (fun hc=>?_) (fun hc=>?_))|fail)
    · first | refine rt (hq:=?_) | refine rt' (hq:=?_)
      have k:x.asleep=false:=by simpa using hc
      exact bad_of (n:=6) (by rw [← hJ];unfold wakeC;rw [e];show (if a.1.asleep=true then _ else _)=_;rw [← hx,k];rfl) (by decide) trivial (hs.onlyF [] (by simp [h1,B2]) (by simp [D0]))
    · have k:x.asleep=true:=by simpa using hc
      have eJ:J=(0,⟨rouA c.A id false,c.run,c.carr⟩):=by rw [← hJ];unfold wakeC;rw [e];show (if a.1.asleep=true then _ else _)=_;rw [← hx,k];rfl
      have ho:=hs.onlyF [] (by simp [h1,B2]) (by simp [D0])
      have x1:=ho.block h1 (by simp)
      have x3:=ho.block B2 (by simp)
      clear hs
      have hs:=((St.nil _).trackT x1).trackT x3
      refine dr [] hs (k:=?_);intro hX w hs
      refine tk 0 hX (k:=?_)
      refine tk 1 hX (k:=?_)
      refine tk 2 hX (k:=?_)
      refine tk 3 hX (k:=?_)
      refine tk 4 hX (k:=?_)
      refine dt 5 hX (k:=?_)
      have ho1:=ho.trans (hs.onlyF [] (by simp [x1,x3]) (by simp [D0]))
      have hSw:=hS.only ho1
      (with_reducible apply xs_call);exact rfl;exact rfl;exact arouse_ret sb c.A Fs id false _ hSw hid
      rw [eb]
      rintro v w2 ⟨rfl,F2,hS2,hF2,ho2⟩
      have n1:cb∉Fs:=CAt.nod h1 hS
      have n3:b2∉Fs:=hS.not B2 rfl
      have y1:=ho2.block (ho1.block h1 (by simp)) n1
      have y3:=ho2.block (ho1.block B2 (by simp)) n3
      have hz0:=ho1.size
      have hR2:RpAt w2 rb .none [rb]:=(hR.only ho1).keepD ho2 (fun k hk hm=>by
        obtain rfl:=List.mem_singleton.1 hk
        exact hR0.apart hC0 k (by simp) (by simp [hm]))
      clear hs
      have hs:=((St.nil w2).trackT y1).trackT y3
      repeat' (first|refine Nx.h ?_|fail)
      refine dn (k:=?_)
      refine tk 6 hX (k:=?_)
      refine en (k:=?_)
      repeat' (first|refine Nx.h ?_|fail)
      first | refine rt (hq:=?_) | refine rt' (hq:=?_)
      have ho3:=hs.onlyF [] (by simp [y1,y3]) (by simp [D0])
      subst eJ
      refine ⟨rfl,trivial,fun _=>⟨cb :: F2,[rb],⟨sb,F2,rfl,ho3.block y1 (by simp),hS2.only ho3,h3,h4⟩,hR2.only ho3,fun k hk=>?_,fun k hk => .inl (by simpa using hk)⟩,((ho1.weaken (by simp)).step ho2 (fun k hk => .inl (by simp [hk]))).step ho3 (by simp)⟩
      rcases List.mem_cons.1 hk with rfl | hk
      · simp
      · rcases hF2 k hk with h | h
        · simp [h]
        · exact .inr (by omega)
theorem rvs_keep {w w':World} {vg vp:Value} {r:Rp} {Gg Gp:List Nat} (p1:SlG w vg r.g Gg) (p2:SlP w vp r.p Gp) {G:List Nat} (ho:Only G w w') (h:∀ b∈G,∃ cs ty fz,w.heap[b]?=some (.cells cs ty fz)∧ty≠53∧ty≠75):RvAt w' (.agg #[vg,vp]) r :=
  ⟨_,_,Gg,Gp,rfl,p1.keep ho (fun k hk hm=>by obtain ⟨cs,ty,fz,a,b,c⟩:=h k hm;exact slv_ne p1 a b hk),p2.keep ho (fun k hk hm=>by obtain ⟨cs,ty,fz,a,b,c⟩:=h k hm;exact slv_ne p2 a c hk)⟩
set_option maxHeartbeats 4000000 in
theorem wake_ret (cb:Nat) (c:Cs) (F:List Nat) (id:Int) (w0:World) (h:CAt w0 cb c F) (hid:In64 id) :
    Ret Tryz.prog 60 #[.pointer (some ⟨cb,0,none⟩),.int .i64 id] w0 fun v w'=>∃ rv,v = .tuple #[rv,.int .i64 (wakeC c id).1]∧Told18 w0 cb F rv (wakeC c id).1 c (wakeC c id).2 .none w':=by
  have hs:=St.nil w0
  refine ret_of_xc Tryz.func60 (by kernel_rfl) rfl Tryz.ntmps60 rfl rfl rfl ?_
  refine xc_seq ?_
  refine xc_region ?_ ?_;exact rfl
  refine bx hs (k:=?_);intro b6 w _ hs
  refine al hs (k:=?_);intro b10 w hz hs
  repeat' (first|refine vs (k:=?_)|refine qRg ?_|refine Nx.h ?_|fail)
  have ho:=hs.only0 rfl
  have hz:=ho.size
  have x6:=hs.get (b:=b6) (by repeat (first | exact At.head | (with_reducible apply At.tail)))
  have x10:=hs.get (b:=b10) (by repeat (first | exact At.head | (with_reducible apply At.tail)))
  have hCw:=h.only ho
  have hb:=hs.new _ List.mem_cons_self rfl
  simp only at hb
  (with_reducible apply xs_call);exact rfl;exact rfl;exact try_ret cb c F _ hCw 116 [.pointer (some ⟨b6,0,none⟩)] [] (fun _=>True) (wakeC c id).1 (wakeC c id).2 .none (fun _ _ _ _ _ _=>trivial) (by simp) (by simp [Rp.none]) (fun w1 ho1=>wake1_ret b6 c id _ w1 hid (ho1.block x6 (by simp)))
  rintro v w2 ⟨rv,rfl,_,hRv,⟨F',hC',hF'⟩,ho2⟩
  obtain ⟨vg,vp,Gg,Gp,rfl,p1,p2⟩:=hRv
  obtain ⟨ag,cg,rfl⟩:=slv_form p1
  obtain ⟨ap,cp,rfl⟩:=slv_form p2
  have x2:=ho2.block x10 (fun hm=>by obtain rfl:=List.mem_singleton.1 hm;exact hCw.not x10 rfl (by obtain ⟨_,_,rfl,_⟩:=hCw;simp))
  clear hs
  have hs:=(St.nil w2).trackT x2
  repeat' (first|refine vs (k:=?_)|(refine stA hs (k:=?_);intro w hs)|refine Nx.h ?_|fail)
  first | refine rt (hq:=?_) | refine rt' (hq:=?_)
  have ho3:Only [b10] w2 _:=hs.onlyF [b10] (by simp) (by simp [D0])
  exact ⟨_,rfl,rvs_keep p1 p2 ho3 (fun b hm=>by obtain rfl:=List.mem_singleton.1 hm;exact ⟨_,_,_,x2,by decide,by decide⟩),⟨F',hC'.keepD ho3 (fun k hk hm=>by obtain rfl:=List.mem_singleton.1 hm;exact hC'.not x2 rfl hk),fun k hk=>by
    rcases hF' k hk with h | h
    · exact .inl h
    · exact .inr (by omega)⟩,((ho.weaken (by simp)).step ho2 (fun k hk => .inl hk)).step ho3 (fun k hk => .inr (by obtain rfl:=List.mem_singleton.1 hk;exact hb))⟩
set_option maxHeartbeats 8000000 in
theorem slice1_ret (b2 b3:Nat) (c:Cs) (id ns:Int) (wb w0:World) (hid:In64 id) (hns:U64 ns) (B2:w0.heap[b2]?=some (.cells #[.int .i64 id] 3 (0,0))) (B3:w0.heap[b3]?=some (.cells #[.int .u64 ns] 22 (0,0))) :
    DoAt wb w0 120 [.pointer (some ⟨b2,0,none⟩),.pointer (some ⟨b3,0,none⟩)] [] (fun _=>True) c (sliceC c id ns).1 (sliceC c id ns).2 .none:=by
  intro cb rb F hC hR hFn hrb
  have hC0:=hC
  have hR0:=hR
  obtain ⟨sb,Fs,rfl,h1,hS,h3,h4⟩:=hC
  obtain ⟨x,bs,ex,eb,hxin,hcs⟩:=get_of c.A.l id
  generalize hJ:sliceC c id ns=J
  have hs:=(((St.nil w0).trackT h1).trackT B2).trackT B3
  refine ret_of_xc Tryz.func120 (by kernel_rfl) rfl Tryz.ntmps120 rfl rfl rfl ?_
  repeat' (first|refine vs (k:=?_)|refine qRg ?_|refine Nx.h ?_|fail)
  refine dr [] hs (k:=?_);intro hX w hs
  refine tk 0 hX (k:=?_)
  refine tk 1 hX (k:=?_)
  refine tk 2 hX (k:=?_)
  refine tk 3 hX (k:=?_)
  refine tk 4 hX (k:=?_)
  refine pd0 9 7 hs (k:=?_);intro f X w hp;have hs:=hp.st
  apply xa_pend 5 9 (f:=f) (X:=X) hX hp;exact rfl;exact rfl;(apply makes_alloc tabOk;exact rfl);kernel_rfl;kernel_rfl;kernel_rfl;kernel_rfl;(intro X Y;(repeat (first | exact pgg_base | refine pgg_step ?_ (by exact rfl))));(intro w' hs;first|exact se_hold hs.hold|exact se_hold hs.hold.tail|exact se_done rfl);intro f X w hp;have hs:=hp.st
  have ho:=hs.onlyF [] (by simp [h1,B2,B3]) (by simp [D0])
  (with_reducible apply xs_call);exact rfl;exact rfl;exact areq_ret sb c.A Fs id _ (hS.only ho) hid
  rw [ex,eb]
  rintro v w' ⟨rfl,ho⟩;replace hp:=hp.only ho;replace hs:=hp.st;repeat' (first|refine Nx.h ?_|fail)
  refine dn (k:=?_)
  refine tk 6 hX (hc:=by cases f <;> kernel_rfl) (k:=?_)
  refine tk 7 hX (hc:=by cases f <;> kernel_rfl) (k:=?_)
  refine tk 8 hX (hc:=by cases f <;> kernel_rfl) (k:=?_)
  apply xa_pendE 9 (f:=f) (X:=X) hX hp;exact rfl;(apply makes_alloc tabOk;exact rfl);kernel_rfl;kernel_rfl;(intro X Y;(repeat (first | exact pgg_base | refine pgg_step ?_ (by exact rfl))));(intro w' hs;first|exact se_hold hs.hold|exact se_hold hs.hold.tail|exact se_done rfl);intro b w hI hs
  refine dt 10 hX (k:=?_)
  repeat' (first|(refine stA hs (k:=?_);intro w hs)|refine Nx.h ?_|fail)
  refine dn (k:=?_)
  refine tk 11 hX (k:=?_)
  refine en (k:=?_)
  repeat' (first|refine vs (k:=?_)|refine qRg ?_|refine Nx.h ?_|fail)
  (with_reducible apply xs_call);exact rfl;exact rfl;exact cslice_ret ns _
  cases c3:mayN ns
  · rintro v w' ⟨rfl,ho⟩;replace hs:=hs.call0 ho;repeat' (first|refine vs (k:=?_)|refine qRg ?_|refine Nx.h ?_|refine qCt ?_|fail)
    first | refine rt (hq:=?_) | refine rt' (hq:=?_)
    exact bad_of (n:=2) (by rw [← hJ];unfold sliceC;rw [if_pos c3]) (by decide) trivial (hs.onlyF [] (by simp [h1,B2,B3]) (by simp [D0]))
  rcases hcs with ⟨hb,e⟩ | ⟨a,hb,e,hx⟩
  · subst hb
    rintro v w' ⟨rfl,ho⟩;replace hs:=hs.call0 ho;repeat' (first|refine vs (k:=?_)|refine qRg ?_|refine Nx.h ?_|refine qCt ?_|refine qCf ?_|fail)
    first | refine rt (hq:=?_) | refine rt' (hq:=?_)
    exact bad_of (n:=14) (by rw [← hJ];unfold sliceC;rw [if_neg (by rw [c3];decide),e]) (by decide) trivial (hs.onlyF [] (by simp [h1,B2,B3]) (by simp [D0]))
  · subst hb
    have eJ:J=(putE c.A (toRT ((sliceR x ns).getD .zero)),⟨putA c.A (toRT ((sliceR x ns).getD .zero)),c.run,c.carr⟩):=by rw [← hJ];unfold sliceC;rw [if_neg (by rw [c3];decide),e,hx]
    rintro v w' ⟨rfl,ho⟩;replace hs:=hs.call0 ho;repeat' (first|refine vs (k:=?_)|refine qRg ?_|refine Nx.h ?_|refine qCf ?_|fail)
    (with_reducible apply xs_call);exact rfl;exact rfl;exact rsliced_ret x ns hxin hns _
    have hy:(toRT ((sliceR x ns).getD .zero)).1=(sliceR x ns).getD .zero:=by
      refine toRT_eq ?_
      cases q:sliceR x ns with
      | none=>decide
      | some y=>exact slice_in hxin hns q
    have er:rqV (sliceR x ns) = .tuple #[rv (toRT ((sliceR x ns).getD .zero)).1,.bool (sliceR x ns).isSome]:=by rw [hy];rfl
    rw [er]
    generalize toRT ((sliceR x ns).getD .zero)=r at *
    generalize (sliceR x ns).isSome=z at *
    rintro v w' ⟨rfl,ho⟩;replace hs:=hs.call0 ho;repeat' (first|refine vs (k:=?_)|(refine stA hs (k:=?_);intro w hs)|(refine al hs (k:=?_);intro b w hz hs)|refine Nx.h ?_|fail)
    have ho:=hs.onlyF [] (by simp [h1,B2,B3]) (by simp [D0])
    have x1:=ho.block h1 (by simp)
    have x3:=hs.get (b:=b) (by repeat (first | exact At.head | (with_reducible apply At.tail)))
    clear hs
    have hs:=((St.nil _).trackT x1).trackT x3
    refine dr [] hs (k:=?_);intro hX w hs
    refine tk 0 hX (k:=?_)
    refine tk 1 hX (k:=?_)
    refine tk 2 hX (k:=?_)
    refine tk 3 hX (k:=?_)
    refine tk 4 hX (k:=?_)
    refine dt 5 hX (k:=?_)
    have ho':=hs.onlyF [] (by simp [x1,x3]) (by simp [D0])
    have ho1:=ho.trans ho'
    have hSw:=hS.only ho1
    (with_reducible apply xs_call);exact rfl;exact rfl;exact aput_ret sb c.A Fs r _ hSw
    rintro v w2 ⟨rfl,F2,hS2,hF2,ho2⟩
    have n1:cb∉Fs:=CAt.nod h1 hS
    have n3:b∉Fs:=hSw.not (ho'.block x3 (by simp)) rfl
    have y1:=ho2.block (ho1.block h1 (by simp)) n1
    have y3:=ho2.block (ho'.block x3 (by simp)) n3
    have hz0:=ho1.size
    have hR2:RpAt w2 rb .none [rb]:=(hR.only ho1).keepD ho2 (fun k hk hm=>by
      obtain rfl:=List.mem_singleton.1 hk
      exact hR0.apart hC0 k (by simp) (by simp [hm]))
    clear hs
    have hs:=((St.nil w2).trackT y1).trackT y3
    repeat' (first|refine Nx.h ?_|fail)
    refine dn (k:=?_)
    refine tk 6 hX (k:=?_)
    refine en (k:=?_)
    repeat' (first|refine Nx.h ?_|fail)
    first | refine rt (hq:=?_) | refine rt' (hq:=?_)
    have ho3:=hs.onlyF [] (by simp [y1,y3]) (by simp [D0])
    subst eJ
    refine ⟨rfl,trivial,fun _=>⟨cb :: F2,[rb],⟨sb,F2,rfl,ho3.block y1 (by simp),hS2.only ho3,h3,h4⟩,hR2.only ho3,fun k hk=>?_,fun k hk => .inl (by simpa using hk)⟩,((ho1.weaken (by simp)).step ho2 (fun k hk => .inl (by simp [hk]))).step ho3 (by simp)⟩
    rcases List.mem_cons.1 hk with rfl | hk
    · simp
    · rcases hF2 k hk with h | h
      · simp [h]
      · exact .inr (by omega)
set_option maxHeartbeats 4000000 in
theorem slice_ret (cb:Nat) (c:Cs) (F:List Nat) (id ns:Int) (w0:World) (h:CAt w0 cb c F) (hid:In64 id) (hns:U64 ns) :
    Ret Tryz.prog 62 #[.pointer (some ⟨cb,0,none⟩),.int .i64 id,.int .u64 ns] w0 fun v w'=>∃ rv,v = .tuple #[rv,.int .i64 (sliceC c id ns).1]∧Told18 w0 cb F rv (sliceC c id ns).1 c (sliceC c id ns).2 .none w':=by
  have hs:=St.nil w0
  refine ret_of_xc Tryz.func62 (by kernel_rfl) rfl Tryz.ntmps62 rfl rfl rfl ?_
  refine xc_seq ?_
  refine xc_region ?_ ?_;exact rfl
  refine bx hs (k:=?_);intro b6 w _ hs
  refine bx hs (k:=?_);intro b7 w _ hs
  refine al hs (k:=?_);intro b10 w hz hs
  repeat' (first|refine vs (k:=?_)|refine qRg ?_|refine Nx.h ?_|fail)
  have ho:=hs.only0 rfl
  have hz:=ho.size
  have x6:=hs.get (b:=b6) (by repeat (first | exact At.head | (with_reducible apply At.tail)))
  have x7:=hs.get (b:=b7) (by repeat (first | exact At.head | (with_reducible apply At.tail)))
  have x10:=hs.get (b:=b10) (by repeat (first | exact At.head | (with_reducible apply At.tail)))
  have hCw:=h.only ho
  have hb:=hs.new _ List.mem_cons_self rfl
  simp only at hb
  (with_reducible apply xs_call);exact rfl;exact rfl;exact try_ret cb c F _ hCw 120 [.pointer (some ⟨b6,0,none⟩),.pointer (some ⟨b7,0,none⟩)] [] (fun _=>True) (sliceC c id ns).1 (sliceC c id ns).2 .none (fun _ _ _ _ _ _=>trivial) (by simp) (by simp [Rp.none]) (fun w1 ho1=>slice1_ret b6 b7 c id ns _ w1 hid hns (ho1.block x6 (by simp)) (ho1.block x7 (by simp)))
  rintro v w2 ⟨rv,rfl,_,hRv,⟨F',hC',hF'⟩,ho2⟩
  obtain ⟨vg,vp,Gg,Gp,rfl,p1,p2⟩:=hRv
  obtain ⟨ag,cg,rfl⟩:=slv_form p1
  obtain ⟨ap,cp,rfl⟩:=slv_form p2
  have x2:=ho2.block x10 (fun hm=>by obtain rfl:=List.mem_singleton.1 hm;exact hCw.not x10 rfl (by obtain ⟨_,_,rfl,_⟩:=hCw;simp))
  clear hs
  have hs:=(St.nil w2).trackT x2
  repeat' (first|refine vs (k:=?_)|(refine stA hs (k:=?_);intro w hs)|refine Nx.h ?_|fail)
  first | refine rt (hq:=?_) | refine rt' (hq:=?_)
  have ho3:Only [b10] w2 _:=hs.onlyF [b10] (by simp) (by simp [D0])
  exact ⟨_,rfl,rvs_keep p1 p2 ho3 (fun b hm=>by obtain rfl:=List.mem_singleton.1 hm;exact ⟨_,_,_,x2,by decide,by decide⟩),⟨F',hC'.keepD ho3 (fun k hk hm=>by obtain rfl:=List.mem_singleton.1 hm;exact hC'.not x2 rfl hk),fun k hk=>by
    rcases hF' k hk with h | h
    · exact .inl h
    · exact .inr (by omega)⟩,((ho.weaken (by simp)).step ho2 (fun k hk => .inl hk)).step ho3 (fun k hk => .inr (by obtain rfl:=List.mem_singleton.1 hk;exact hb))⟩
end Go.Proofs.YtkbcfknnieggbaaGreatDoorX

namespace Go.Proofs.YtkbcfknnieggbaaGreatDoorX
open Go Go.RowKit
attribute [local irreducible] XS XC XA thenE blockE retE loopE loopS cutB cutN doneE SE
set_option maxHeartbeats 16000000 in
theorem weigh1_ret (b2 b3:Nat) (c:Cs) (id q:Int) (wb w0:World) (hid:In64 id) (hq:U32 q) (B2:w0.heap[b2]?=some (.cells #[.int .i64 id] 3 (0,0))) (B3:w0.heap[b3]?=some (.cells #[.int .u32 q] 45 (0,0))) :
    DoAt wb w0 117 [.pointer (some ⟨b2,0,none⟩),.pointer (some ⟨b3,0,none⟩)] [] (fun _=>True) c (weighC c id q).1 (weighC c id q).2 .none:=by
  intro cb rb F hC hR hFn hrb
  have hC0:=hC
  have hR0:=hR
  obtain ⟨sb,Fs,rfl,h1,hS,h3,h4⟩:=hC
  obtain ⟨qb,mb,m,tb,mb',cq,g1,g2,gin,gQ,gpl,gm,_,_⟩:=hS.mean
  obtain ⟨x,bs,ex,eb,hxin,hcs⟩:=get_of c.A.l id
  generalize hJ:weighC c id q=J
  have hs:=(((((St.nil w0).trackT h1).trackT g1).trackT g2).trackT B2).trackT B3
  refine ret_of_xc Tryz.func117 (by kernel_rfl) rfl Tryz.ntmps117 rfl rfl rfl ?_
  repeat' (first|refine vs (k:=?_)|refine qRg ?_|refine Nx.h ?_|fail)
  refine dr [] hs (k:=?_);intro hX w hs
  refine tk 0 hX (k:=?_)
  refine tk 1 hX (k:=?_)
  refine tk 2 hX (k:=?_)
  refine tk 3 hX (k:=?_)
  refine tk 4 hX (k:=?_)
  refine pd0 9 7 hs (k:=?_);intro f X w hp;have hs:=hp.st
  apply xa_pend 5 9 (f:=f) (X:=X) hX hp;exact rfl;exact rfl;(apply makes_alloc tabOk;exact rfl);kernel_rfl;kernel_rfl;kernel_rfl;kernel_rfl;(intro X Y;(repeat (first | exact pgg_base | refine pgg_step ?_ (by exact rfl))));(intro w' hs;first|exact se_hold hs.hold|exact se_hold hs.hold.tail|exact se_done rfl);intro f X w hp;have hs:=hp.st
  have ho:=hs.onlyF [] (by simp [h1,g1,g2,B2,B3]) (by simp [D0])
  (with_reducible apply xs_call);exact rfl;exact rfl;exact areq_ret sb c.A Fs id _ (hS.only ho) hid
  rw [ex,eb]
  rintro v w' ⟨rfl,ho⟩;replace hp:=hp.only ho;replace hs:=hp.st;repeat' (first|refine Nx.h ?_|fail)
  refine dn (k:=?_)
  refine tk 6 hX (hc:=by cases f <;> kernel_rfl) (k:=?_)
  refine tk 7 hX (hc:=by cases f <;> kernel_rfl) (k:=?_)
  refine tk 8 hX (hc:=by cases f <;> kernel_rfl) (k:=?_)
  apply xa_pendE 9 (f:=f) (X:=X) hX hp;exact rfl;(apply makes_alloc tabOk;exact rfl);kernel_rfl;kernel_rfl;(intro X Y;(repeat (first | exact pgg_base | refine pgg_step ?_ (by exact rfl))));(intro w' hs;first|exact se_hold hs.hold|exact se_hold hs.hold.tail|exact se_done rfl);intro b w hI hs
  refine dt 10 hX (k:=?_)
  repeat' (first|(refine stA hs (k:=?_);intro w hs)|refine Nx.h ?_|fail)
  refine dn (k:=?_)
  refine tk 11 hX (k:=?_)
  refine en (k:=?_)
  repeat' (first|refine vs (k:=?_)|refine qRg ?_|refine Nx.h ?_|fail)
  (with_reducible apply xs_call);exact rfl;exact rfl;exact cweight_ret q _
  cases c2:mayW q
  · rintro v w' ⟨rfl,ho⟩;replace hs:=hs.call0 ho;repeat' (first|refine vs (k:=?_)|refine qRg ?_|refine Nx.h ?_|refine qCt ?_|fail)
    first | refine rt (hq:=?_) | refine rt' (hq:=?_)
    exact bad_of (n:=2) (by rw [← hJ];unfold weighC;rw [if_pos c2]) (by decide) trivial (hs.onlyF [] (by simp [h1,g1,g2,B2,B3]) (by simp [D0]))
  rcases hcs with ⟨hb,e⟩ | ⟨a,hb,e,hx⟩
  · subst hb
    rintro v w' ⟨rfl,ho⟩;replace hs:=hs.call0 ho;repeat' (first|refine vs (k:=?_)|refine qRg ?_|refine Nx.h ?_|refine qCt ?_|refine qCf ?_|fail)
    first | refine rt (hq:=?_) | refine rt' (hq:=?_)
    exact bad_of (n:=14) (by rw [← hJ];unfold weighC;rw [if_neg (by rw [c2];decide),e]) (by decide) trivial (hs.onlyF [] (by simp [h1,g1,g2,B2,B3]) (by simp [D0]))
  subst hb
  have eJ:J=weighS c id ((weM m x.i.p q).bind fun p=>moveR x p):=by
    rw [← hJ];unfold weighC;rw [if_neg (by rw [c2];decide),e,hx,gm (List.ne_nil_of_mem (findR_some e).1)];rfl
  rintro v w' ⟨rfl,ho⟩;replace hs:=hs.call0 ho;repeat' (first|refine vs (k:=?_)|refine qRg ?_|refine Nx.h ?_|refine qCf ?_|fail)
  refine dr [] hs (k:=?_);intro hX w hs
  refine tk 0 hX (k:=?_)
  refine tk 1 hX (k:=?_)
  refine tk 2 hX (k:=?_)
  refine tk 3 hX (k:=?_)
  refine tk 4 hX (k:=?_)
  refine tk 5 hX (k:=?_)
  refine tk 6 hX (k:=?_)
  refine tk 7 hX (k:=?_)
  refine tk 8 hX (k:=?_)
  refine tk 9 hX (k:=?_)
  refine tk 10 hX (k:=?_)
  refine tk 11 hX (k:=?_)
  refine tk 12 hX (k:=?_)
  refine tk 13 hX (k:=?_)
  refine pd0 18 9 hs (k:=?_);intro f X w hp;have hs:=hp.st
  apply xa_pend 14 18 (f:=f) (X:=X) hX hp;exact rfl;exact rfl;(apply makes_alloc tabOk;exact rfl);kernel_rfl;kernel_rfl;kernel_rfl;kernel_rfl;(intro X Y;(repeat (first | exact pgg_base | refine pgg_step ?_ (by exact rfl))));(intro w' hs;first|exact se_hold hs.hold|exact se_hold hs.hold.tail|exact se_done rfl);intro f X w hp;have hs:=hp.st
  (with_reducible apply xs_call);exact rfl;exact rfl;exact weigh_ret m x.i.p q gin hxin.1.1 hq _
  have hPin:∀ p,weM m x.i.p q=some p→p.In:=fun p h=>weM_in h
  generalize weM m x.i.p q=op at *
  cases op with
  | none =>
    rintro v w' ⟨rfl,ho⟩;replace hp:=hp.only ho;replace hs:=hp.st;repeat' (first|refine Nx.h ?_|fail)
    refine dn (k:=?_)
    refine tk 15 hX (hc:=by cases f <;> kernel_rfl) (k:=?_)
    refine tk 16 hX (hc:=by cases f <;> kernel_rfl) (k:=?_)
    refine tk 17 hX (hc:=by cases f <;> kernel_rfl) (k:=?_)
    apply xa_pendE 18 (f:=f) (X:=X) hX hp;exact rfl;(apply makes_alloc tabOk;exact rfl);kernel_rfl;kernel_rfl;(intro X Y;(repeat (first | exact pgg_base | refine pgg_step ?_ (by exact rfl))));(intro w' hs;first|exact se_hold hs.hold|exact se_hold hs.hold.tail|exact se_done rfl);intro b w hI hs
    refine dt 19 hX (k:=?_)
    repeat' (first|(refine stA hs (k:=?_);intro w hs)|refine Nx.h ?_|fail)
    refine dn (k:=?_)
    refine tk 20 hX (k:=?_)
    refine en (k:=?_)
    repeat' (first|refine vs (k:=?_)|refine qRg ?_|refine Nx.h ?_|fail)
    (with_reducible apply xs_call);exact rfl;exact rfl;exact rmoved_ret x .zero hxin (by decide) _
    generalize moveR x .zero=o
    cases o
    · rintro v w' ⟨rfl,ho⟩;replace hs:=hs.call0 ho;repeat' (first|refine vs (k:=?_)|refine ps (k:=?_)|(refine stA hs (k:=?_);intro w hs)|(refine al hs (k:=?_);intro b w hz hs)|refine qRg ?_|refine Nx.h ?_|refine qCt ?_|fail)
      first | refine rt (hq:=?_) | refine rt' (hq:=?_)
      exact bad_of (n:=8) eJ (by decide) trivial (hs.onlyF [] (by simp [h1,g1,g2,B2,B3]) (by simp [D0]))
    · rintro v w' ⟨rfl,ho⟩;replace hs:=hs.call0 ho;repeat' (first|refine vs (k:=?_)|refine ps (k:=?_)|(refine stA hs (k:=?_);intro w hs)|(refine al hs (k:=?_);intro b w hz hs)|refine qRg ?_|refine Nx.h ?_|refine qCt ?_|fail)
      first | refine rt (hq:=?_) | refine rt' (hq:=?_)
      exact bad_of (n:=8) eJ (by decide) trivial (hs.onlyF [] (by simp [h1,g1,g2,B2,B3]) (by simp [D0]))
  | some p =>
    have hpin:=hPin p rfl
    rintro v w' ⟨rfl,ho⟩;replace hp:=hp.only ho;replace hs:=hp.st;repeat' (first|refine Nx.h ?_|fail)
    refine dn (k:=?_)
    refine tk 15 hX (hc:=by cases f <;> kernel_rfl) (k:=?_)
    refine tk 16 hX (hc:=by cases f <;> kernel_rfl) (k:=?_)
    refine tk 17 hX (hc:=by cases f <;> kernel_rfl) (k:=?_)
    apply xa_pendE 18 (f:=f) (X:=X) hX hp;exact rfl;(apply makes_alloc tabOk;exact rfl);kernel_rfl;kernel_rfl;(intro X Y;(repeat (first | exact pgg_base | refine pgg_step ?_ (by exact rfl))));(intro w' hs;first|exact se_hold hs.hold|exact se_hold hs.hold.tail|exact se_done rfl);intro b w hI hs
    refine dt 19 hX (k:=?_)
    repeat' (first|(refine stA hs (k:=?_);intro w hs)|refine Nx.h ?_|fail)
    refine dn (k:=?_)
    refine tk 20 hX (k:=?_)
    refine en (k:=?_)
    repeat' (first|refine vs (k:=?_)|refine qRg ?_|refine Nx.h ?_|fail)
    (with_reducible apply xs_call);exact rfl;exact rfl;exact rmoved_ret x p hxin hpin _
    have eJ:J=weighS c id (moveR x p):=eJ
    cases hr:moveR x p with
    | none =>
      rw [hr] at eJ
      rintro v w' ⟨rfl,ho⟩;replace hs:=hs.call0 ho;repeat' (first|refine vs (k:=?_)|(refine stA hs (k:=?_);intro w hs)|(refine al hs (k:=?_);intro b w hz hs)|refine qRg ?_|refine Nx.h ?_|refine qCt ?_|fail)
      first | refine rt (hq:=?_) | refine rt' (hq:=?_)
      exact bad_of (n:=8) eJ (by decide) trivial (hs.onlyF [] (by simp [h1,g1,g2,B2,B3]) (by simp [D0]))
    | some y =>
      have yin:=move_in hxin hpin hr
      rw [hr] at eJ
      have eJ:J=(putE c.A (toRT y),⟨putA c.A (toRT y),c.run,carryW c.carr (lagA c.A id)⟩):=eJ
      rw [show toRT y=⟨y,yin⟩ from dif_pos yin] at eJ
      rintro v w' ⟨rfl,ho⟩;replace hs:=hs.call0 ho;repeat' (first|refine vs (k:=?_)|(refine stA hs (k:=?_);intro w hs)|(refine al hs (k:=?_);intro b w hz hs)|refine qRg ?_|refine Nx.h ?_|refine qCf ?_|fail)
      have ho:=hs.onlyF [] (by simp [h1,g1,g2,B2,B3]) (by simp [D0])
      obtain ⟨s0,hrep⟩:=hS.rep
      (with_reducible apply xs_call);exact rfl;exact rfl;exact lagof_ret cb c _ id _ (hC0.only ho) hid
      rintro v w' ⟨rfl,ho⟩;replace hs:=hs.call0 ho;skip
      have ho4:=hs.onlyF [] (by simp [h1,g1,g2,B2,B3]) (by simp [D0])
      have xb:=hs.get (b:=b) (by repeat (first | exact At.head | (with_reducible apply At.tail)))
      have hb:=hs.new _ List.mem_cons_self rfl
      simp only at hb
      have hS4:=hS.only ho4
      have x1:=ho4.block h1 (by simp)
      (with_reducible apply xs_call);exact rfl;exact rfl;exact carry_ret cb sb c.run c.carr _ _ x1 h3 (lagA_in hrep id)
      rintro v w5 ⟨hc5,ho5⟩
      have n5:cb∉Fs:=CAt.nod h1 hS
      have nb:b≠cb:=by have:=lt_of_block h1;omega
      have xb5:=ho5.block xb (by simp [nb])
      have hS5:=hS4.keepD ho5 (fun k hk hm=>by obtain rfl:=List.mem_singleton.1 hm;exact n5 hk)
      have hR5:RpAt w5 rb .none [rb]:=(hR.only ho4).keepD ho5 (fun k hk hm=>by
        obtain rfl:=List.mem_singleton.1 hk
        obtain rfl:=List.mem_singleton.1 hm
        exact hR0.apart hC0 k (by simp) (by simp))
      have hoB:Only (rb :: (cb :: Fs) ++ []) w0 w5:=(ho4.weaken (by simp)).step ho5 (fun k hk => .inl (by obtain rfl:=List.mem_singleton.1 hk;simp))
      have hzB:=hoB.size
      clear hs
      have hs:=((St.nil w5).trackT hc5).trackT xb5
      repeat' (first|refine Nx.h ?_|fail)
      refine dr [] hs (k:=?_);intro hX w hs
      refine tk 0 hX (k:=?_)
      refine tk 1 hX (k:=?_)
      refine tk 2 hX (k:=?_)
      refine tk 3 hX (k:=?_)
      refine tk 4 hX (k:=?_)
      refine dt 5 hX (k:=?_)
      have ho1:=hs.onlyF [] (by simp [hc5,xb5]) (by simp [D0])
      (with_reducible apply xs_call);exact rfl;exact rfl;exact aput_ret sb c.A Fs ⟨y,yin⟩ _ (hS5.only ho1)
      rintro v w2 ⟨rfl,F2,hS2,hF2,ho2⟩
      have hz0:=ho1.size
      have y1:=ho2.block (ho1.block hc5 (by simp)) n5
      have nbF:b∉Fs:=hS5.not xb5 rfl
      have yb:=ho2.block (ho1.block xb5 (by simp)) nbF
      have hR2:RpAt w2 rb .none [rb]:=(hR5.only ho1).keepD ho2 (fun k hk hm=>by
        obtain rfl:=List.mem_singleton.1 hk
        exact hR0.apart hC0 k (by simp) (by simp [hm]))
      clear hs
      have hs:=((St.nil w2).trackT y1).trackT yb
      repeat' (first|refine Nx.h ?_|fail)
      refine dn (k:=?_)
      refine tk 6 hX (k:=?_)
      refine en (k:=?_)
      repeat' (first|refine Nx.h ?_|fail)
      first | refine rt (hq:=?_) | refine rt' (hq:=?_)
      have ho3:=hs.onlyF [] (by simp [y1,yb]) (by simp [D0])
      subst eJ
      refine ⟨rfl,trivial,fun _=>⟨cb :: F2,[rb],⟨sb,F2,rfl,ho3.block y1 (by simp),hS2.only ho3,carryW_in _ _,h4⟩,hR2.only ho3,fun k hk=>?_,fun k hk => .inl (by simpa using hk)⟩,((hoB.step ho1 (by simp)).step ho2 (fun k hk => .inl (by simp [hk]))).step ho3 (by simp)⟩
      rcases List.mem_cons.1 hk with rfl | hk
      · simp
      · rcases hF2 k hk with h | h
        · simp [h]
        · exact .inr (by omega)
set_option maxHeartbeats 4000000 in
theorem cweigh_ret (cb:Nat) (c:Cs) (F:List Nat) (id q:Int) (w0:World) (h:CAt w0 cb c F) (hid:In64 id) (hq:U32 q) :
    Ret Tryz.prog 61 #[.pointer (some ⟨cb,0,none⟩),.int .i64 id,.int .u32 q] w0 fun v w'=>∃ rv,v = .tuple #[rv,.int .i64 (weighC c id q).1]∧Told18 w0 cb F rv (weighC c id q).1 c (weighC c id q).2 .none w':=by
  have hs:=St.nil w0
  refine ret_of_xc Tryz.func61 (by kernel_rfl) rfl Tryz.ntmps61 rfl rfl rfl ?_
  refine xc_seq ?_
  refine xc_region ?_ ?_;exact rfl
  refine bx hs (k:=?_);intro b6 w _ hs
  refine bx hs (k:=?_);intro b7 w _ hs
  refine al hs (k:=?_);intro b10 w hz hs
  repeat' (first|refine vs (k:=?_)|refine qRg ?_|refine Nx.h ?_|fail)
  have ho:=hs.only0 rfl
  have hz:=ho.size
  have x6:=hs.get (b:=b6) (by repeat (first | exact At.head | (with_reducible apply At.tail)))
  have x7:=hs.get (b:=b7) (by repeat (first | exact At.head | (with_reducible apply At.tail)))
  have x10:=hs.get (b:=b10) (by repeat (first | exact At.head | (with_reducible apply At.tail)))
  have hCw:=h.only ho
  have hb:=hs.new _ List.mem_cons_self rfl
  simp only at hb
  (with_reducible apply xs_call);exact rfl;exact rfl;exact try_ret cb c F _ hCw 117 [.pointer (some ⟨b6,0,none⟩),.pointer (some ⟨b7,0,none⟩)] [] (fun _=>True) (weighC c id q).1 (weighC c id q).2 .none (fun _ _ _ _ _ _=>trivial) (by simp) (by simp [Rp.none]) (fun w1 ho1=>weigh1_ret b6 b7 c id q _ w1 hid hq (ho1.block x6 (by simp)) (ho1.block x7 (by simp)))
  rintro v w2 ⟨rv,rfl,_,hRv,⟨F',hC',hF'⟩,ho2⟩
  obtain ⟨vg,vp,Gg,Gp,rfl,p1,p2⟩:=hRv
  obtain ⟨ag,cg,rfl⟩:=slv_form p1
  obtain ⟨ap,cp,rfl⟩:=slv_form p2
  have x2:=ho2.block x10 (fun hm=>by obtain rfl:=List.mem_singleton.1 hm;exact hCw.not x10 rfl (by obtain ⟨_,_,rfl,_⟩:=hCw;simp))
  clear hs
  have hs:=(St.nil w2).trackT x2
  repeat' (first|refine vs (k:=?_)|(refine stA hs (k:=?_);intro w hs)|refine Nx.h ?_|fail)
  first | refine rt (hq:=?_) | refine rt' (hq:=?_)
  have ho3:Only [b10] w2 _:=hs.onlyF [b10] (by simp) (by simp [D0])
  exact ⟨_,rfl,rvs_keep p1 p2 ho3 (fun b hm=>by obtain rfl:=List.mem_singleton.1 hm;exact ⟨_,_,_,x2,by decide,by decide⟩),⟨F',hC'.keepD ho3 (fun k hk hm=>by obtain rfl:=List.mem_singleton.1 hm;exact hC'.not x2 rfl hk),fun k hk=>by
    rcases hF' k hk with h | h
    · exact .inl h
    · exact .inr (by omega)⟩,((ho.weaken (by simp)).step ho2 (fun k hk => .inl hk)).step ho3 (fun k hk => .inr (by obtain rfl:=List.mem_singleton.1 hk;exact hb))⟩
abbrev wideO (x:Int):Obj := .cells #[.int .i64 (x / 18446744073709551616),.int .u64 (x % 18446744073709551616)] 43 (0,0)
theorem lagA_none {A:As} {id:Int} (e:findR A.l id=none):lagA A id=0:=by unfold lagA;rw [e]
set_option maxHeartbeats 8000000 in
theorem cleave_ret (cb:Nat) (c:Cs) (F:List Nat) (id:Int) (w0:World) (h:CAt w0 cb c F) (hid:In64 id) :
    Ret Tryz.prog 113 #[.pointer (some ⟨cb,0,none⟩),.int .i64 id] w0 fun v w'=>v = .tuple #[wv (lagA c.A id),.int .i64 (leaveC c id).1]∧∃ F',CAt w' cb (leaveC c id).2 F'∧(∀ k∈F',k∈F∨w0.heap.size≤k)∧Only F w0 w':=by
  have hC:=h
  obtain ⟨sb,Fs,rfl,h1,hS,h3,h4⟩:=h
  have hs:=(St.nil w0).trackT h1
  refine ret_of_xc Tryz.func113 (by kernel_rfl) rfl Tryz.ntmps113 rfl rfl rfl ?_
  refine xc_seq ?_
  refine xc_region ?_ ?_;exact rfl
  refine al hs (k:=?_);intro b4 w1 hz1 hs
  have g4:=hs.new (b4,true) (by simp) rfl
  simp only at g4
  repeat' (first|refine vs (k:=?_)|refine qRg ?_|refine Nx.h ?_|fail)
  have ho:=hs.onlyF [] (by simp [h1]) (by simp [D0])
  (with_reducible apply xs_call);exact rfl;exact rfl;exact lagof_ret cb c _ id _ (hC.only ho) hid
  generalize hlag:lagA c.A id=lag
  rintro v w' ⟨rfl,ho⟩;replace hs:=hs.call0 ho;repeat' (first|refine vs (k:=?_)|(refine stA hs (k:=?_);intro w hs)|(refine al hs (k:=?_);intro b w hz hs)|refine qRg ?_|refine Nx.h ?_|fail)
  have ho3:=hs.onlyF [] (by simp [h1]) (by simp [D0])
  have gb:=hs.new _ List.mem_cons_self rfl
  simp only at gb
  have x1:=hs.get (b:=cb) (o:=coreO sb c.run c.carr) (by repeat (first | exact At.head | (with_reducible apply At.tail)))
  have x4:=hs.get (b:=b4) (by repeat (first | exact At.head | (with_reducible apply At.tail)))
  have xb:=hs.get (b:=b) (by repeat (first | exact At.head | (with_reducible apply At.tail)))
  have nb:b≠b4:=by
    have nd:=hs.nd
    simp only [List.map_cons,List.map_nil,List.nodup_cons,List.mem_cons,List.not_mem_nil,or_false,not_or] at nd
    exact nd.1.1
  have hSw:=hS.only ho3
  obtain ⟨s0,hrep⟩:=hS.rep
  have hin:InW lag:=by rw [← hlag];exact lagA_in hrep id
  have n1:cb∉Fs:=CAt.nod h1 hS
  have n4:b4∉Fs:=hSw.not x4 rfl
  have nB:b∉Fs:=hSw.not xb rfl
  have hz3:=ho3.size
  (with_reducible apply xs_call);exact rfl;exact rfl;exact aexit_ret sb c.A Fs id _ hSw hid
  rintro v w4 ⟨rfl,F2,hS2,hF2,ho4⟩
  have y1:=ho4.block x1 n1
  have y4:=ho4.block x4 n4
  have yb:=ho4.block xb nB
  have hoA:Only (cb :: Fs) w0 w4:=(ho3.weaken (by simp)).step ho4 (fun k hk => .inl (by simp [hk]))
  have hF2':∀ k∈F2,k∈Fs∨w0.heap.size≤k:=fun k hk=>by
    rcases hF2 k hk with h | h
    · exact .inl h
    · exact .inr (by omega)
  have lcb:=lt_of_block h1
  clear hs
  have hs:=(((St.nil w4).trackT y1).trackT y4).track yb (by simp [nb];omega)
  cases e:findR c.A.l id with
  | none =>
    have eA:extA c.A id=c.A:=by unfold extA;rw [e];rfl
    have eL:leaveC c id=(14,c):=by unfold leaveC;rw [e];rfl
    rw [eA] at hS2
    rw [eL]
    have l0:lag=0:=by rw [← hlag];exact lagA_none e
    repeat' (first|refine vs (k:=?_)|(refine stA hs (k:=?_);intro w hs)|(refine al hs (k:=?_);intro b w hz hs)|refine qRg ?_|refine Nx.h ?_|refine qCt ?_|fail)
    first | refine rt (hq:=?_) | refine rt' (hq:=?_)
    have ho5:=hs.onlyF [b4] (by simp [y1,yb]) (by simp [D0])
    subst l0
    refine ⟨rfl,cb :: F2,⟨sb,F2,rfl,ho5.block y1 (by simp;omega),hS2.keepD ho5 (fun k hk hm=>by obtain rfl:=List.mem_singleton.1 hm;exact hS2.not y4 rfl hk),h3,h4⟩,fun k hk=>?_,hoA.step ho5 (fun k hk => .inr (by obtain rfl:=List.mem_singleton.1 hk;exact g4))⟩
    rcases List.mem_cons.1 hk with rfl | hk
    · simp
    · rcases hF2' k hk with h | h
      · simp [h]
      · exact .inr h
  | some a =>
    have eL:leaveC c id=(0,⟨extA c.A id,c.run,carryW c.carr lag⟩):=by unfold leaveC;rw [e,hlag];rfl
    rw [eL]
    repeat' (first|refine vs (k:=?_)|(refine stA hs (k:=?_);intro w hs)|(refine al hs (k:=?_);intro b w hz hs)|refine qRg ?_|refine Nx.h ?_|refine qCf ?_|fail)
    have ho5:=hs.onlyF [] (by simp [y1,y4,yb]) (by simp [D0])
    (with_reducible apply xs_call);exact rfl;exact rfl;exact carry_ret cb sb c.run c.carr lag _ (ho5.block y1 (by simp)) h3 hin
    rintro v w6 ⟨hc6,ho6⟩
    have z4:=ho6.block (ho5.block y4 (by simp)) (by simp;omega)
    have zb:=ho6.block (ho5.block yb (by simp)) (by simp;omega)
    have n6:cb∉F2:=CAt.nod y1 hS2
    have hS6:=(hS2.only ho5).keepD ho6 (fun k hk hm=>by obtain rfl:=List.mem_singleton.1 hm;exact n6 hk)
    have hoB:Only (cb :: Fs) w0 w6:=(hoA.step ho5 (by simp)).step ho6 (fun k hk => .inl (by obtain rfl:=List.mem_singleton.1 hk;simp))
    clear hs
    have hs:=(((St.nil w6).trackT hc6).trackT z4).track zb (by simp [nb];omega)
    repeat' (first|refine vs (k:=?_)|(refine stA hs (k:=?_);intro w hs)|refine qRg ?_|refine Nx.h ?_|fail)
    first | refine rt (hq:=?_) | refine rt' (hq:=?_)
    have ho7:=hs.onlyF [b4] (by simp [hc6,zb]) (by simp [D0])
    refine ⟨rfl,cb :: F2,⟨sb,F2,rfl,ho7.block hc6 (by simp;omega),hS6.keepD ho7 (fun k hk hm=>by obtain rfl:=List.mem_singleton.1 hm;exact hS6.not z4 rfl hk),carryW_in _ _,h4⟩,fun k hk=>?_,hoB.step ho7 (fun k hk => .inr (by obtain rfl:=List.mem_singleton.1 hk;exact g4))⟩
    rcases List.mem_cons.1 hk with rfl | hk
    · simp
    · rcases hF2' k hk with h | h
      · simp [h]
      · exact .inr h
end Go.Proofs.YtkbcfknnieggbaaGreatDoorX
