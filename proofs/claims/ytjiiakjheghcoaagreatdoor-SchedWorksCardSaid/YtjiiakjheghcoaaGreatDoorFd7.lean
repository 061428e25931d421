/- A part of the proof: what its functions compute. -/
import Derived.Test.YtjiiakjheghcoaaGreatDoorFd6
set_option linter.unusedVariables false
set_option linter.unusedSimpArgs false
set_option maxRecDepth 100000
set_option maxHeartbeats 64000000
set_option linter.unusedSectionVars false
namespace Go.Proofs.Q0
open Go Go.RowKit Tryz
attribute [local irreducible] XS XC XA AY AR A9 A1 A0 Aa Ae AW SE
structure Cs where
 A:As
 run:Int
 carr:Int
abbrev Ez (sb:Nat) (run carr:Int):Obj := .cells #[.pointer (some ⟨sb,0,none⟩),.int .i64 run,.int .i64 (carr / 18446744073709551616),.int .u64 (carr % 18446744073709551616)] 72 (0,0)
def Bh (w:World) (cb:Nat) (c:Cs) (F:List Nat):Prop:=∃ sb Fs,F=cb :: Fs∧w.heap[cb]?=some (Ez sb c.run c.carr)∧Cn w sb c.A Fs∧Ac c.carr∧In64 c.run
theorem aAX (sb:Nat) (run carr:Int):Vv (Ez sb run carr)=true:=by rfl
theorem Bh.Ny {w:World} {cb sb:Nat} {r k:Int} {A:As} {Fs:List Nat} (h:w.heap[cb]?=some (Ez sb r k)) (hS:Cn w sb A Fs):cb∉Fs:=hS.not h (aAX sb r k)
theorem Bh.Ai {w w':World} {cb:Nat} {c:Cs} {F G:List Nat} (h:Bh w cb c F) (ho:AB G w w') (hd:∀ k∈F,k∉G):Bh w' cb c F:=by
 obtain ⟨sb,Fs,rfl,h1,h2,h3⟩:=h;exact ⟨sb,Fs,rfl,ho.block h1 (hd cb AA),h2.Ai ho (fun k hk=>hd k (by simp [hk])),h3⟩
theorem Bh.only {w w':World} {cb:Nat} {c:Cs} {F:List Nat} (h:Bh w cb c F) (ho:AB [] w w'):Bh w' cb c F:=h.Ai ho AA
theorem Bh.lt {w:World} {cb:Nat} {c:Cs} {F:List Nat} (h:Bh w cb c F):∀ k∈F,k < w.heap.size:=by
 obtain ⟨sb,Fs,rfl,h1,h2,h3⟩:=h;intro k hk;rcases aCu.1 hk with rfl | hk
 ·exact lt_of_block h1
 ·exact h2.lt k hk
def qS:Obj→Bool
 | .cells cs ty f=>Vv (.cells cs ty f) && !(Nat.beq ty 72)
 | _=>false
theorem Bh.not {w:World} {cb:Nat} {c:Cs} {F:List Nat} (h:Bh w cb c F) {b:Nat} {cs:Array Value} {ty:Nat} {fz:Nat × Nat} (hb:w.heap[b]?=some (.cells cs ty fz)) (ho:qS (.cells cs ty fz)=true):b∉F:=fun hm=>by
 obtain ⟨sb,Fs,rfl,h1,h2,h3⟩:=h;simp only [qS,aDB,aDf] at ho;rcases aCu.1 hm with rfl | hm
 ·exact A3 hb h1 (fun e=>by rw [e] at ho;exact absurd ho.2 (by decide)) rfl
 ·exact h2.not hb ho.1 hm
theorem Bh.rep {w:World} {cb:Nat} {c:Cs} {F:List Nat} (h:Bh w cb c F):(∃ s,BN s c.A)∧Ac c.carr:=by
 obtain ⟨sb,Fs,rfl,h1,h2,h3⟩:=h;exact ⟨h2.rep,h3.1⟩
def EY (clock:Int):Cs:=⟨⟨[],clock⟩,0,0⟩
theorem V9 (clock:Int) (hc:BY clock) (w0:World):AO prog 31 #[.int .u64 clock] w0 fun v w'=>(∃ cb F,v = .pointer (some ⟨cb,0,none⟩)∧Bh w' cb (EY clock) F∧∀ k∈F,w0.heap.size≤k)∧AB [] w0 w':=by
 have hs:=St.nil w0;refine AS func31 ntmps31 ?_;refine Ja ?_;refine cl (h:=by exact nZ clock hc _) ?_;rintro v w1 ⟨⟨sb,F,rfl,h1,h2⟩,AL⟩;replace hs:=hs.AP AL;have BF:=hs.AE rfl;have hz:=BF.size;have hl:=h1.lt;clear hs;have hs:=St.nil w1
 repeat' (first|refine Sb ?_|(refine bx hs ?_;intro b w hz hs)|fail)
 have hb:=hs.new _ aCw rfl;simp only at hb;refine AG ?_;have AN:=hs.AE rfl
 exact ⟨⟨_,_,rfl,⟨sb,F,rfl,hs.get At.head,h1.only AN,Ot,S6⟩,fun k hk=>by
  rcases aCu.1 hk with rfl | hk
  ·omega
  ·have:=h2 k hk;omega⟩,BF.trans AN⟩
theorem Rh (cb:Nat) (c:Cs) (F:List Nat) (w0:World) (h:Bh w0 cb c F):AO prog 40 #[.pointer (some ⟨cb,0,none⟩)] w0 fun v w'=>(∃ Rx F',v = .pointer (some ⟨Rx,0,none⟩)∧Bh w' Rx c F'∧∀ k∈F',w0.heap.size≤k)∧AB [] w0 w':=by
 obtain ⟨sb,Fs,rfl,h1,h2,h3,h4⟩:=h;have hs:=(St.nil w0).AH h1 AA;refine AS func40 ntmps40 ?_;refine Jd ?_;refine dr [] hs ?_;intro hX w hs;refine tks 0 4 ?_;refine tks 5 8 ?_;refine dt 4 hX ?_;have ho:=hs.AD [] (by simp [h1]) sD;refine cl (h:=by exact aC sb c.A Fs _ (h2.only ho)) ?_;rintro v w1 ⟨⟨s',Fs',rfl,k3,hF⟩,AL⟩;replace hs:=hs.AP AL;have n1:=ho.size;have l3:=k3.lt;have BF:=hs.AD [] (by simp [h1]) sD;have kq:=hs.get At.head;have n3:=BF.size;clear hs;have hs:=(St.nil w1).AH kq AA;refine Jn ?_;refine tk 13 hX ?_;refine dt 14 hX ?_
 repeat' (first|refine Nx.h ?_|(refine bx hs ?_;intro b w hz hs)|fail)
 have n5:=hs.new _ (aCw) rfl;simp only at n5;refine dn ?_;refine tk 15 hX ?_;refine en ?_;refine Jb ?_;refine AG ?_;have Ar:=hs.AD [] (by simp [kq]) sD
 exact ⟨⟨_,_,rfl,⟨s',Fs',rfl,hs.get At.head,k3.only Ar,h3,h4⟩,fun k hk=>by
  rcases aCu.1 hk with rfl | hk
  ·omega
  ·have:=hF k hk;omega⟩,BF.step Ar AA⟩
theorem MP (cb:Nat) (c:Cs) (F:List Nat) (id:Int) (w0:World) (h:Bh w0 cb c F) (hid:In64 id):AO prog 103 #[.pointer (some ⟨cb,0,none⟩),.int .i64 id] w0 fun v w'=>v=wv (C2 c.A id)∧AB [] w0 w':=by
 obtain ⟨sb,Fs,rfl,h1,h2,h3⟩:=h;obtain ⟨qb,mb,g1,g2⟩:=h2.FA;have n1:cb≠sb:=A3 h1 g1 (by decide);have hs:=((St.nil w0).AH g1 AA).AH h1 (by simpa using n1);refine AS func103 ntmps103 ?_
 repeat' (first|refine Sa ?_|(refine al hs ?_;intro b w hz hs)|fail)
 have ho:=hs.AD [] (by simp [h1,g1]) sD;refine AZ hs (h:=by exact mM qb c.A id _ (g2.only ho) hid) ?_;intro w' ho hs;repeat' (first|refine Sa ?_|(refine AV hs ?_;intro w hs)|(refine al hs ?_;intro b w hz hs)|fail)
 refine AG ?_;exact ⟨rfl,hs.AD [] (by simp [h1,g1]) sD⟩
def Ea (x lag:Int):Int:=if Ac (x+JK 0 [lag]) then x+JK 0 [lag] else Ks
theorem yN (x:Int) (hx:Ac x):Ac (JK 0 [x]):=by
 unfold JK JK;split
 ·rename_i h;exact h
 ·exact RS
theorem MF (x lag:Int):Ac (Ea x lag):=by
 unfold Ea;split
 ·rename_i h;exact h
 ·exact RS
theorem aAb {w:World} {b:Nat} {x:Int} (hb:w.heap[b]?=some (.cells #[.int .i64 (x / 18446744073709551616),.int .u64 (x % 18446744073709551616)] 70 (0,0))):fN w (.slice (some ⟨b,0,none⟩) 1 1) [x] :=
 ⟨_,1,rfl,fun _=>⟨b,0,_,_,(0,0),rfl,hb,fun i x h=>by
  rcases i with _ | i
  ·cases h;exact ⟨rfl,rfl⟩
  ·simp at h⟩⟩
theorem fZ (w0:World):AO prog 149 #[.agg #[.int .i64 (-9223372036854775808),.int .u64 0]] w0 fun v w'=>v=wv Ks∧AB [] w0 w':=by
 have h:=Ui (-170141183460469231731687303715884105728) (by decide) w0;rw [show wv (-170141183460469231731687303715884105728) = .agg #[.int .i64 (-9223372036854775808),.int .u64 0] by kernel_rfl,show Du (-170141183460469231731687303715884105728)=Ks by decide] at h;exact h
theorem Lz (cb sb:Nat) (run carr lag:Int) (w0:World) (h:w0.heap[cb]?=some (Ez sb run carr)) (Mi:Ac carr) (hl:Ac lag):AO prog 114 #[.pointer (some ⟨cb,0,none⟩),wv lag] w0 fun v w'=>w'.heap[cb]?=some (Ez sb run (Ea carr lag))∧AB [cb] w0 w':=by
 have hs:=(St.nil w0).AH h AA;refine AS func114 ntmps114 ?_
 repeat' (first|refine Aq ?_|refine Nx.h ?_|(refine bx hs ?_;intro b w hz hs)|fail)
 refine dr [] hs ?_;intro hX w hs;refine tks 0 5 ?_;refine Gq 11 4 hs ?_;intro f X w hp;have hs:=hp.st;apply BI 5 11 (f:=f) (X:=X) hX hp;exact rfl;exact rfl;(apply AT AJ;exact rfl);kernel_rfl;kernel_rfl;kernel_rfl;kernel_rfl;(intro X Y;(repeat (first | exact A4 | refine A5 ?_ (by exact rfl))));(intro w' hs;first|exact AI hs.hold|exact AI hs.hold.tail|exact Ab rfl);intro f X w hp;have hs:=hp.st;refine wN hp ?_;intro b5 w5 _ hp;replace hs:=hp.st;refine Jn ?_;apply BI 6 11 (f:=f) (X:=X) hX hp;exact rfl;exact rfl;(apply AT AJ;exact rfl);kernel_rfl;kernel_rfl;kernel_rfl;kernel_rfl;(intro X Y;(repeat (first | exact A4 | refine A5 ?_ (by exact rfl))));(intro w' hs;first|exact AI hs.hold|exact AI hs.hold.tail|exact Ab rfl);intro f X w hp;have hs:=hp.st;refine cl (h:=by exact QW [lag] _ (fun i x e=>by rcases i with _ | i;cases e;exact hl;simp at e) AA _ (aAb (hs.get At.head))) (k:=?_);rintro v w' ⟨rfl,ho⟩;replace hp:=hp.only ho;replace hs:=hp.st;refine Jn ?_;have hca:=yN lag hl;have eC:Ea carr lag=if Ac (carr+JK 0 [lag]) then carr+JK 0 [lag] else Ks:=rfl
 generalize JK 0 [lag]=y at *;apply BI 7 11 (f:=f) (X:=X) hX hp;exact rfl;exact rfl;(apply AT AJ;exact rfl);kernel_rfl;kernel_rfl;kernel_rfl;kernel_rfl;(intro X Y;(repeat (first | exact A4 | refine A5 ?_ (by exact rfl))));(intro w' hs;first|exact AI hs.hold|exact AI hs.hold.tail|exact Ab rfl);intro f X w hp;have hs:=hp.st;refine cl (h:=by exact dP carr y Mi hca _) ?_;rintro v w' ⟨rfl,ho⟩;replace hp:=hp.only ho;replace hs:=hp.st;refine Jn ?_;refine tk 8 hX (hc:=by cases f <;> kernel_rfl) (k:=?_);refine tk 9 hX (hc:=by cases f <;> kernel_rfl) (k:=?_);refine tk 10 hX (hc:=by cases f <;> kernel_rfl) (k:=?_);apply Bb 11 (f:=f) (X:=X) hX hp;exact rfl;(apply AT AJ;exact rfl);kernel_rfl;kernel_rfl;(intro X Y;(repeat (first | exact A4 | refine A5 ?_ (by exact rfl))));(intro w' hs;first|exact AI hs.hold|exact AI hs.hold.tail|exact Ab rfl);intro b w hI hs;refine dt 12 hX ?_
 repeat' (first|refine Nx.h ?_|(refine AV hs ?_;intro w hs)|fail)
 refine dn ?_;refine tk 13 hX ?_;refine en ?_;by_cases hi:Ac (carr+y)
 ·rw [if_pos hi] at eC;rw [eC,decide_eq_true hi];rw [show tot (carr+y)=carr+y from if_pos hi] at hs ⊢
  repeat' (first|refine Sd ?_|(refine AV hs ?_;intro w hs)|fail)
  refine JO ?_;exact ⟨hs.get (At.tail (At.tail (At.tail At.head))),hs.AD [cb] AA sD⟩
 ·rw [if_neg hi] at eC;rw [eC,decide_eq_false hi];refine Je ?_;refine AZ hs (h:=by exact fZ _) ?_;intro w' ho hs;repeat' (first|refine Sa ?_|(refine AV hs ?_;intro w hs)|fail)
  refine JO ?_;exact ⟨hs.get (At.tail (At.tail (At.tail At.head))),hs.AD [cb] AA sD⟩
structure Pr where
 id:Int
 ns:Int
 done:Bool
deriving DecidableEq
abbrev Pr.cells (p:Pr):List Value:=[.int .i64 p.id,.int .u64 p.ns,.bool p.done]
def Su (l:List Pr):List Value:=(l.map Pr.cells).flatten
structure Rp where
 g:List Gn
 p:List Pr
def Rp.none:Rp:=⟨[],[]⟩
abbrev Z7 (w:World) (v:Value) (l:List Gn) (G:List Nat):Prop:=B6 w 170 13 v l.length (HW l) G
abbrev U2 (w:World) (v:Value) (l:List Pr) (G:List Nat):Prop:=B6 w 168 3 v l.length (Su l) G
abbrev K7 (vg vp:Value):Obj := .cells #[vg,vp] 131 (0,0)
def DS (w:World) (rb:Nat) (r:Rp) (F:List Nat):Prop:=∃ vg vp Gg Gp,F=rb :: (Gg ++ Gp)∧w.heap[rb]?=some (K7 vg vp)∧Z7 w vg r.g Gg∧U2 w vp r.p Gp
theorem BQ {w:World} {e k n:Nat} {v:Value} {xs:List Value} {G:List Nat} (h:B6 w e k v n xs G) {b:Nat} {cs:Array Value} {ty:Nat} {fz:Nat × Nat} (hb:w.heap[b]?=some (.cells cs ty fz)) (hne:ty≠e):b∉G:=fun hm=>by
 rcases h with ⟨_,_,_,rfl⟩ | ⟨g,cap,cur,_,rfl,_,_,_,_,hg⟩
 ·cases hm
 ·obtain rfl:=List.mem_singleton.1 hm;exact A3 hb hg hne rfl
theorem L7 {w:World} {e k n:Nat} {v:Value} {xs:List Value} {G:List Nat} (h:B6 w e k v n xs G):∀ b∈G,∃ cs,w.heap[b]?=some (.cells cs e (0,0)):=fun b hb=>by
 rcases h with ⟨_,_,_,rfl⟩ | ⟨g,cap,cur,_,rfl,_,_,_,_,hg⟩
 ·cases hb
 ·obtain rfl:=List.mem_singleton.1 hb;exact ⟨_,hg⟩
theorem BU {w:World} {e k n:Nat} {v:Value} {xs:List Value} {G:List Nat} (h:B6 w e k v n xs G):∃ ad cap,v = .slice ad n cap:=by
 rcases h with ⟨rfl,rfl,_⟩ | ⟨g,cap,cur,rfl,_⟩
 ·exact ⟨_,_,rfl⟩
 ·exact ⟨_,_,rfl⟩
theorem slv_two {w:World} {e k n e' k' n':Nat} {v v':Value} {xs xs':List Value} {G G':List Nat} (h:B6 w e k v n xs G) (h':B6 w e' k' v' n' xs' G') (hne:e≠e'):∀ b∈G,b∉G':=fun b hb=>by
 obtain ⟨cs,hc⟩:=L7 h b hb;exact BQ h' hc hne
theorem WG {w:World} {e k n:Nat} {v:Value} {xs:List Value} {G:List Nat} (h:B6 w e k v n xs G) {cb:Nat} {c:Cs} {F:List Nat} (hc:Bh w cb c F) (ho:qS (.cells #[] e (0,0))=true):∀ b∈G,b∉F:=fun b hb=>by
 obtain ⟨cs,hb'⟩:=L7 h b hb;exact hc.not hb' ho
theorem DS.Ai {w w':World} {rb:Nat} {r:Rp} {F G:List Nat} (h:DS w rb r F) (ho:AB G w w') (hd:∀ k∈F,k∉G):DS w' rb r F:=by
 obtain ⟨vg,vp,Gg,Gp,rfl,h1,h2,h3⟩:=h;exact ⟨vg,vp,Gg,Gp,rfl,ho.block h1 (hd rb AA),h2.keep ho (fun k hk=>hd k (by simp [hk])),h3.keep ho (fun k hk=>hd k (by simp [hk]))⟩
theorem DS.only {w w':World} {rb:Nat} {r:Rp} {F:List Nat} (h:DS w rb r F) (ho:AB [] w w'):DS w' rb r F:=h.Ai ho AA
theorem DS.apart {w:World} {rb:Nat} {r:Rp} {F:List Nat} (h:DS w rb r F) {cb:Nat} {c:Cs} {Fc:List Nat} (hc:Bh w cb c Fc):∀ k∈F,k∉Fc:=fun k hk=>by
 obtain ⟨vg,vp,Gg,Gp,rfl,h1,h2,h3⟩:=h;simp only [aCu,aC4] at hk;rcases hk with rfl | hk | hk
 ·exact hc.not h1 rfl
 ·exact WG h2 hc rfl k hk
 ·exact WG h3 hc rfl k hk
theorem DS.lt {w:World} {rb:Nat} {r:Rp} {F:List Nat} (h:DS w rb r F):∀ k∈F,k < w.heap.size:=fun k hk=>by
 obtain ⟨vg,vp,Gg,Gp,rfl,h1,h2,h3⟩:=h;simp only [aCu,aC4] at hk;rcases hk with rfl | hk | hk
 ·exact lt_of_block h1
 ·exact h2.lt k hk
 ·exact h3.lt k hk
def HF (x:Int) (l:List Gn):Int:=l.foldl (fun x g=>Ea x g.lag) x
theorem U1 {x:Int} (hx:Ac x):∀ {l:List Gn},Ac (HF x l):=fun {l}=>by
 induction l generalizing x with
 | nil=>exact hx
 | cons g l ih=>exact ih (MF _ _)
theorem YS (x:Int) (l:List Gn) (g:Gn):HF x (l ++ [g])=Ea (HF x l) g.lag:=by unfold HF;rw [aDh];rfl
def Da (c:Cs):List Gn:=(DR c.A).1
def DN (c:Cs):Cs:=⟨(DR c.A).2,K4 c.A,HF c.carr (Da c)⟩
theorem ZQ {s:Ss} {A:As} (h:BN s A) {a:RT} (ha:a∈A.l):Ac (XN A a):=by
 have h1:=h.over ha;unfold XN;have:=(h.cen (List.ne_nil_of_mem ha)).a0;have:=(h.cen (List.ne_nil_of_mem ha)).a1;rw [← h1.2.2];exact div_in h1.2.1 om
theorem ND {s:Ss} {A:As} (h:BN s A) (id:Int):Ac (C2 A id):=by
 unfold C2;cases e:Al A.l id with
 | none=>exact Ot
 | some a=>exact ZQ h (Bu e).1
theorem TT:∀ {n:Nat} {s:Ss} {A:As},BN s A→∀ g∈(Cr n A).1,Ac g.lag
 | 0,_,_,_,g,hg=>by cases hg
 | n+1,s,A,h,g,hg=>by
   unfold Cr at hg;cases e:A.l.find? (GJ A) with
   | none=>rw [e] at hg;cases hg
   | some a =>
     rw [e] at hg;have ha:=aD5 e;rcases aCu.1 hg with rfl | hg
     ·exact ZQ h ha
     ·exact TT (h.exit (Cl h.o ha)).2.2 g hg
theorem NS:∀ n B,(Cr n B).1.length≤n
 | 0,B=>aC5 _
 | n+1,B=>by
   unfold Cr;cases B.l.find? (GJ B) with
   | none=>exact aC7 _
   | some a=>simp only [aCx];have:=NS n (Fl B (BB a));omega
theorem jD (g:Gn):∀ u∈g.cells,u.oneCell'=true:=fun u hu=>by
 simp only [aCu,aC1,or_false] at hu;rcases hu with rfl | rfl | rfl | rfl | rfl | rfl | rfl | rfl | rfl | rfl | rfl | rfl | rfl <;> rfl
theorem YN {l:List Gn}:∀ u∈HW l,u.oneCell'=true:=fun u hu=>by
 obtain ⟨cs,h1,h2⟩:=List.mem_flatten.1 hu;obtain ⟨g,_,rfl⟩:=List.mem_map.1 h1;exact jD g u h2
theorem l7 {A:As} {s:Ss} (h:BN s A):In64 (K4 A):=by
 unfold K4 T2;obtain ⟨s',_,k⟩:=h.flush;cases H6 (DR A).2 with
 | none=>exact S6
 | some a=>exact a.2.1.2.1
theorem vC {w:World} {cb:Nat} {c:Cs} {F:List Nat} (h:Bh w cb c F):In64 (K4 c.A):=by
 obtain ⟨⟨s,hr⟩,_⟩:=h.rep;exact l7 hr
theorem QH (cb rb:Nat) (c:Cs) (r:Rp) (F Fr:List Nat) (w0:World) (h:Bh w0 cb c F) (hr:DS w0 rb r Fr) (hm:r.g.length≤1000000) :
 AO prog 133 #[.pointer (some ⟨cb,0,none⟩),.pointer (some ⟨rb,0,none⟩)] w0 fun v w'=>∃ F' iF,Bh w' cb (DN c) F'∧DS w' rb ⟨r.g ++ Da c,r.p⟩ iF∧(∀ k∈F',k∈F∨w0.heap.size≤k)∧(∀ k∈iF,k∈Fr∨w0.heap.size≤k)∧AB (F ++ Fr) w0 w':=by
 have hC:=h;have hap:=hr.apart h;have hrl:=hr.lt;obtain ⟨⟨s,OF⟩,hcin⟩:=h.rep;have hrun:=vC h;obtain ⟨sb,Fs,rfl,h1,h2,h3⟩:=h;have aBX:=Bh.Ny h1 h2;have hs:=(St.nil w0).AH h1 AA;refine AS func133 ntmps133 ?_;refine Ja ?_;have ho:=hs.AD [] (by simp [h1]) sD;have hz:=ho.size;refine cl (h:=by exact YY sb c.A Fs _ (h2.only ho)) ?_;rintro v w1 ⟨sl,rfl,⟨G,hG,DV⟩,F1,GB,Cq,AL⟩;have hle:=NS c.A.l.length c.A;have hlen:(Da c).length≤1000000:=by have:=OF.le;show (Cr _ _).1.length≤_;omega
 have Yr:∀ g∈Da c,Ac g.lag:=TT OF;have c1:=AL.block (hs.get At.head) aBX;have BF:AB (cb :: Fs) w0 w1:=(ho.weaken AA).step AL (fun k hk => .inl (by simp [hk]));have J0:=AL.size;have Mq:=hr.Ai BF hap;have G0:Z7 w1 sl (Da c) G:=hG;have aBj:DN c=⟨(DR c.A).2,K4 c.A,HF c.carr (Da c)⟩:=rfl;generalize hgo:Da c=go at *;have hD:Cu w1 170 13 sl (go.map Gn.cells):=G0.ls rfl AA (fun x hx=>by obtain ⟨g,_,rfl⟩:=List.mem_map.1 hx;rfl);obtain ⟨ad,cap,rfl,hD⟩:=hD;rw [aC0] at *;clear hs;have hs:=(St.nil w1).AH c1 AA;refine Ja ?_;refine BM (fun (_:Unit)=>[(0,.pointer (some ⟨cb,0,none⟩)),(1,.pointer (some ⟨rb,0,none⟩)),(4,.slice ad go.length cap),(5,.int .i64 (K4 c.A))]) (fun _ w=>w.heap[cb]?=some (Ez sb c.run (HF c.carr go))∧AB [cb] w1 w) ?_ ?_
 ·refine BH (fun (i:Nat)=>[(0,.pointer (some ⟨cb,0,none⟩)),(1,.pointer (some ⟨rb,0,none⟩)),(4,.slice ad go.length cap),(5,.int .i64 (K4 c.A)),(16,.slice ad go.length cap),(17,.int .i64 (go.length:Nat)),(18,.int .i64 (i:Nat))])
   (fun i w=>i≤go.length∧w.heap[cb]?=some (Ez sb c.run (HF c.carr (go.take i)))∧AB [cb] w1 w) (fun i=>go.length - i) 0 Ad ⟨aC7 _,hs.get At.head,hs.AD [cb] AA sD⟩ fun i env wl ⟨hi,hcb,BP⟩=>?_
  clear hs;have hs:=(St.nil wl).AH hcb AA
  repeat' (first|refine Sa ?_|refine Aw rfl (fun hc=>?_) fun hc=>?_|fail)
  ·have hlt:i < go.length:=by omega
   obtain ⟨b,off,cs,fz,rfl,_,hb,hcs⟩:=hD (fun h=>by have:=congrArg List.length h;rw [aC0,aDA] at this;omega);have hpk:=hcs i (Gn.cells go[i]) (by rw [aC8,aC3 hlt];rfl);have ei:=DP (m:=go.length) hlt om;have et:HF c.carr (go.take (i+1))=Ea (HF c.carr (go.take i)) go[i].lag:=by rw [CH hlt,YS]
   have hq:=Yr go[i] (aDS hlt);have hin:Ac (HF c.carr (go.take i)):=U1 hcin;generalize go[i]=q at *;have J3:=BP.block hb (by simp;exact A3 hb c1 (by decide));refine ix (h0:=(by omega)) (h1:=(by omega)) ?_;refine Ia J3 hpk ?_
   repeat' (first|refine Sa ?_|(refine AV hs ?_;intro w hs)|(refine al hs ?_;intro b w hz hs)|fail)
   refine cl (h:=by exact Lz cb sb c.run _ q.lag _ (hs.get (At.tail At.head)) hin hq) ?_;rintro v w4 ⟨hc4,Ar⟩;have Bd:=hs.AD [cb] AA sD;clear hs;have hs:=St.nil w4;refine Ja ?_;exact A2 (i+1) (by show go.length - (i+1) < go.length - i;omega) (by (repeat (first | exact Ag | (apply A8;first | exact rfl | exact congrArg (Value.int .i64) ei)))) ⟨by show i+1≤_;omega,by simp only [et];exact (hs.AE rfl).block hc4 AA,((BP.step Bd (fun k hk => .inl hk)).step Ar (fun k hk => .inl hk)).step (hs.AE rfl) AA⟩
  ·have e:i=go.length:=by omega
   subst e;rw [aDK] at hcb;exact Au () Ad ⟨hcb,BP⟩
 ·rintro _ env w2 ⟨hcb,AN⟩;clear hs;have Mz:=AN.size;have U0:=lt_of_block c1;have JY:∀ k∈Fr,k∉[cb]:=fun k hk hm=>hap k hk (by obtain rfl:=List.mem_singleton.1 hm;exact aCw);have SD:=Mq.Ai AN JY;have KQ:=G0.keep AN (fun k hk hm=>by obtain rfl:=List.mem_singleton.1 hm;exact BQ G0 c1 (by decide) hk);have E7:=GB.Ai AN (fun k hk hm=>by obtain rfl:=List.mem_singleton.1 hm;exact Bh.Ny c1 GB hk);obtain ⟨vg,vp,Gg,Gp,rfl,r1,r2,r3⟩:=SD;have hrb:rb≠cb:=A3 r1 hcb (by decide);have hs:=((St.nil w2).AH hcb AA).AH r1 (by simpa using hrb);refine Ja ?_;refine SX AJ rfl rfl rfl rfl rfl rfl YN r2 KQ om om ?_;intro v3 w3 ⟨G3,Nv,mY⟩ AU;obtain ⟨v7,sK,rfl⟩:=BU Nv;have n1:=BQ r2 hcb (by decide);have n2:=BQ r2 r1 (by decide);have k1:=AU.block hcb n1;have k2:=AU.block r1 n2;have KO:=r3.keep AU (slv_two r3 r2 (by decide));have Nz:=AU.size
  have JQ:=E7.Ai AU (fun k hk hm=>by
   obtain ⟨cs,hc⟩:=L7 r2 k hm;exact E7.not hc rfl hk)
  clear hs;have hs:=((St.nil w3).AH k1 AA).AH k2 (by simpa using hrb)
  repeat' (first|refine Sa ?_|(refine st hs ?_;intro w hs)|fail)
  refine JO ?_;have Ar:AB [cb,rb] w3 _:=hs.AD [cb,rb] AA sD;have f1:=hs.get At.head;have f2:=hs.get (At.tail At.head);have Td:Z7 w3 (.slice v7 (r.g.length+go.length) sK) (r.g ++ go) G3:=by unfold Z7;rw [aCv,show HW (r.g ++ go)=HW r.g ++ HW go by simp [HW]];exact Nv
  have d1:∀ k∈G3,k∉[cb,rb]:=fun k hk hm=>by
   simp only [aCu,aC1,or_false] at hm;rcases hm with rfl | rfl
   ·exact BQ Td k1 (by decide) hk
   ·exact BQ Td k2 (by decide) hk
  have d2:∀ k∈Gp,k∉[cb,rb]:=fun k hk hm=>by
   simp only [aCu,aC1,or_false] at hm;rcases hm with rfl | rfl
   ·exact BQ KO k1 (by decide) hk
   ·exact BQ KO k2 (by decide) hk
  have d3:∀ k∈F1,k∉[cb,rb]:=fun k hk hm=>by
   simp only [aCu,aC1,or_false] at hm;rcases hm with rfl | rfl
   ·exact Bh.Ny k1 JQ hk
   ·exact JQ.not k2 rfl hk
  have hsz:=BF.size;rw [aBj];refine ⟨cb :: F1,rb :: (G3 ++ Gp),⟨sb,F1,rfl,f2,JQ.Ai Ar d3,U1 hcin,hrun⟩,⟨_,vp,G3,Gp,rfl,f1,Td.keep Ar d1,KO.keep Ar d2⟩,fun k hk=>?_,fun k hk=>?_,?_⟩
  ·rcases aCu.1 hk with rfl | hk
   ·simp
   ·rcases Cq k hk with h | h
    ·simp [h]
    ·exact .inr om
  ·simp only [aCu,aC4] at hk ⊢;rcases hk with rfl | hk | hk
   ·simp
   ·rcases mY k hk with h | h
    ·simp [h]
    ·exact .inr om
   ·simp [hk]
  ·refine (((BF.weaken (by simp;intro k hk;simp [hk])).step AN (fun k hk => .inl (by simp at hk;simp [hk]))).step AU (fun k hk => .inl (by simp [hk]))).step Ar (fun k hk => .inl (by simp at hk;simp;rcases hk with h | h <;> simp [h]))
def M0 (w:World) (v:Value) (r:Rp):Prop:=∃ vg vp Gg Gp,v = .agg #[vg,vp]∧Z7 w vg r.g Gg∧U2 w vp r.p Gp
def OK (w0 w:World) (fid:Nat) (caps:List Value) (E:List Nat) (Qx:World→Prop) (c:Cs) (e:Int) (c1:Cs) (r1:Rp):Prop :=
 ∀ cb rb F,Bh w cb c F→DS w rb .none [rb]→(∀ k∈F,w0.heap.size≤k)→w0.heap.size≤rb →
  AO prog fid (.pointer (some ⟨cb,0,none⟩) :: .pointer (some ⟨rb,0,none⟩) :: caps).toArray w fun v w'=>v = .int .i64 e∧Qx w' ∧
   (e=0→∃ F2 Fr,Bh w' cb c1 F2∧DS w' rb r1 Fr∧(∀ k∈F2,k∈F∨w.heap.size≤k)∧(∀ k∈Fr,k=rb∨w.heap.size≤k))∧AB (rb :: F ++ E) w w'
def CU (c:Cs) (e:Int) (c1:Cs):Cs:=if e=0 then DN c1 else c
def BO (e:Int) (c1:Cs) (r1:Rp):Rp:=if e=0 then ⟨r1.g ++ Da c1,r1.p⟩ else .none
theorem Jw (cb:Nat) (c:Cs) (F:List Nat) (w0:World) (h:Bh w0 cb c F) (fid:Nat) (caps:List Value) (E:List Nat) (Qx:World→Prop) (e:Int) (c1:Cs) (r1:Rp)
 (hQ:∀ w w' G,Qx w→AB G w w'→(∀ k∈E,k∉G)→Qx w') (hE:∀ k∈E,k∉F∧k < w0.heap.size) (hr:r1.g.length≤1000000) (Ri:∀ w,AB [] w0 w→OK w0 w fid caps E Qx c e c1 r1) :
 AO prog 94 #[.pointer (some ⟨cb,0,none⟩),.func (.func fid) #[] caps.toArray] w0 fun v w'=>∃ rv,v = .tuple #[rv,.int .i64 e]∧Qx w'∧M0 w' rv (BO e c1 r1) ∧
  (∃ F',Bh w' cb (CU c e c1) F'∧∀ k∈F',k∈F∨w0.heap.size≤k)∧AB (cb :: E) w0 w':=by
 have hC:=h;obtain ⟨sb,Fs,rfl,h1,h2,h3⟩:=h;have hs:=(St.nil w0).AH h1 AA;have lcb:=lt_of_block h1;refine AS func94 ntmps94 ?_;refine Ah ?_;refine Aq ?_;refine al hs ?_;intro b4 w hz hs;have g4:=hs.new (b4,true) AA rfl;simp only at g4
 repeat' (first|refine Sd ?_|(refine al hs ?_;intro b w hz hs)|fail)
 have gb:=hs.new _ aCw rfl;simp only at gb;have ho:=hs.AD [] (by simp [h1]) sD;refine cl (h:=by exact Rh cb c _ _ (hC.only ho)) ?_;rintro v w1 ⟨⟨Rx,F',rfl,M6,C0⟩,AL⟩;replace hs:=hs.AP AL;have J0:=ho.size;have BF:=hs.AD [] (by simp [h1]) sD;have k1:=hs.get At.head;have k2:=hs.get (At.tail At.head);have k3:=hs.get (At.tail (At.tail At.head));have sB:b≠b4:=by have:=hs.nd;simp only [aC2,aC6,aCu,not_or] at this;exact this.1.1
 have Dx:∀ k∈F',w0.heap.size≤k:=fun k hk=>by have:=C0 k hk;omega
 clear hs;have hs:=(((St.nil w1).AH k3 AA).AH k2 (by simp;omega)).AH k1 (by simp [sB];omega);refine Ja ?_;have AN:=hs.AD [] (by simp [k1,k2,k3]) sD;have L8:=M6.only AN;have kb:=hs.get At.head;have hR:DS _ b .none [b]:=⟨_,_,[],[],rfl,kb,.inl ⟨rfl,rfl,rfl,rfl⟩,.inl ⟨rfl,rfl,rfl,rfl⟩⟩;have Mz:=BF.size;have Nz:=AN.size;refine cl (h:=by exact Ri _ (BF.trans AN) Rx b F' L8 hR Dx gb) ?_;rintro v w3 ⟨rfl,hX,hres,AU⟩
 have m1:cb∉b :: F' ++ E:=fun hm=>by
  simp only [aDR,aCu,aC4] at hm;rcases hm with rfl | hm | hm
  ·omega
  ·have:=Dx cb hm;omega
  ·exact (hE cb hm).1 AA
 have m2:b4∉b :: F' ++ E:=fun hm=>by
  simp only [aDR,aCu,aC4] at hm;rcases hm with rfl | hm | hm
  ·exact sB rfl
  ·exact L8.not (hs.get (At.tail At.head)) rfl hm
  ·have:=(hE b4 hm).2;omega
 have j2:=AU.block (hs.get (At.tail At.head)) m2;have j3:=AU.block (hs.get (At.tail (At.tail At.head))) m1
 have Bd:AB (cb :: E) w0 w3:=((BF.trans AN).weaken AA).step AU (fun k hk=>by
  simp only [aDR,aCu,aC4] at hk ⊢;rcases hk with rfl | hk | hk
  ·exact .inr gb
  ·exact .inr (Dx k hk)
  ·exact .inl (.inr hk))
 have qQ:=Bd.size;clear hs;have hs:=((St.nil w3).AH j3 AA).AH j2 (by simp;omega);by_cases he:e=0
 ·subst he;obtain ⟨F2,Fr,V5,hR3,D6,hFr⟩:=hres rfl;refine Jd ?_;have Ar:=hs.AD [] (by simp [j2,j3]) sD;have Zh:=V5.only Ar;have hR4:=hR3.only Ar;have Ob:=Ar.size
  have Kb:∀ k∈F2,w0.heap.size≤k:=fun k hk=>by
   rcases D6 k hk with h | h
   ·exact Dx k h
   ·omega
  have nH:∀ k∈Fr,w0.heap.size≤k:=fun k hk=>by
   rcases hFr k hk with rfl | h
   ·exact gb
   ·omega
  have hm4:b4∉F2 ++ Fr:=fun hm=>by
   rcases aC4.1 hm with h | h
   ·exact Zh.not (hs.get At.head) rfl h
   ·rcases hFr b4 h with h | h
    ·exact sB h.symm
    ·have:=lt_of_block k2;omega
  have hmc:cb∉F2 ++ Fr:=fun hm=>by
   rcases aC4.1 hm with h | h
   ·have:=Kb cb h;omega
   ·have:=nH cb h;omega
  refine cl (h:=by exact QH Rx b c1 r1 F2 Fr _ Zh hR4 hr) ?_;rintro v w5 ⟨F5,Fr5,Oo,VQ,jR,aCi,BL⟩;have i2:=BL.block (hs.get At.head) hm4;have i3:=BL.block (hs.get (At.tail At.head)) hmc
  have EM:AB (cb :: E) w0 w5:=(Bd.step Ar AA).step BL (fun k hk=>by
   rcases aC4.1 hk with h | h
   ·exact .inr (Kb k h)
   ·exact .inr (nH k h))
  have hX5:=hQ _ _ _ (hQ _ _ _ hX Ar AA) BL (fun k hk hm=>by
   have:=(hE k hk).2;rcases aC4.1 hm with h | h
   ·have:=Kb k h;omega
   ·have:=nH k h;omega)
  have aAN:∀ k∈F5,w0.heap.size≤k:=fun k hk=>by
   rcases jR k hk with h | h
   ·exact Kb k h
   ·omega
  have hap:=VQ.apart Oo;obtain ⟨sb5,wU,rfl,q1,q2,q3,q4⟩:=Oo;obtain ⟨vg,vp,Gg,Gp,rfl,p1,p2,p3⟩:=VQ;obtain ⟨ag,cg,rfl⟩:=BU p2;obtain ⟨ap,cp,rfl⟩:=BU p3;have e1:b≠Rx:=A3 p1 q1 (by decide);have e2:b4≠Rx:=A3 i2 q1 (by decide);have e3:cb≠Rx:=by have:=aAN Rx AA;omega
  have e4:b4≠cb:=by omega
  have e5:b≠cb:=by omega
  clear hs;have hs:=((((St.nil w5).AH q1 AA).AH i3 (by simpa using e3)).AH i2 (by simp [e2,e4])).AH p1 (by simp [e1,e5,sB])
  repeat' (first|refine Sa ?_|(refine AV hs ?_;intro w hs)|fail)
  refine AG ?_;have Ao:AB [cb,b4] w5 _:=hs.AD [cb,b4] (by simp [q1,p1]) sD;have f1:=hs.get (At.tail (At.tail At.head))
  have d1:∀ k∈Gg,k∉[cb,b4]:=fun k hk hm=>by
   simp only [aCu,aC1,or_false] at hm;rcases hm with rfl | rfl
   ·exact BQ p2 i3 (by decide) hk
   ·exact BQ p2 i2 (by decide) hk
  have d2:∀ k∈Gp,k∉[cb,b4]:=fun k hk hm=>by
   simp only [aCu,aC1,or_false] at hm;rcases hm with rfl | rfl
   ·exact BQ p3 i3 (by decide) hk
   ·exact BQ p3 i2 (by decide) hk
  have d3:∀ k∈wU,k∉[cb,b4]:=fun k hk hm=>by
   simp only [aCu,aC1,or_false] at hm;rcases hm with rfl | rfl
   ·exact q2.not i3 rfl hk
   ·exact q2.not i2 rfl hk
  refine ⟨_,rfl,hQ _ _ _ hX5 Ao (fun k hk hm=>?_),⟨_,_,Gg,Gp,rfl,p2.keep Ao d1,p3.keep Ao d2⟩,⟨cb :: wU,⟨sb5,wU,rfl,f1,q2.Ai Ao d3,q3,q4⟩,fun k hk=>?_⟩,EM.step Ao (fun k hk=>?_)⟩
  ·have:=hE k hk;simp only [aCu,aC1,or_false] at hm;rcases hm with rfl | rfl
   ·exact this.1 AA
   ·omega
  ·rcases aCu.1 hk with rfl | hk
   ·simp
   ·exact .inr (aAN k (by simp [hk]))
  ·simp only [aCu,aC1,or_false] at hk;rcases hk with rfl | rfl
   ·simp
   ·exact .inr om
 ·rw [show BO e c1 r1 = .none from if_neg he,show CU c e c1=c from if_neg he]
  repeat' (first|refine Sa ?_|(refine AV hs ?_;intro w hs)|refine xc_cond rfl (fun hc=>?_) fun hc=>?_|fail)
  ·refine AG ?_;have Ao:AB [b4] w3 _:=hs.AD [b4] (by simp [j3]) sD;refine ⟨_,rfl,hQ _ _ _ hX Ao (fun k hk hm=>by have:=(hE k hk).2;obtain rfl:=List.mem_singleton.1 hm;omega),⟨_,_,[],[],rfl,.inl ⟨rfl,rfl,rfl,rfl⟩,.inl ⟨rfl,rfl,rfl,rfl⟩⟩,⟨cb :: Fs,?_,fun k hk => .inl hk⟩,Bd.step Ao (fun k hk => .inr (by obtain rfl:=List.mem_singleton.1 hk;exact g4))⟩;have hlt:=hC.lt;refine ((hC.only (BF.trans AN)).Ai AU (fun k hk hm=>?_)).Ai Ao (fun k hk hm=>by have:=hlt k hk;obtain rfl:=List.mem_singleton.1 hm;omega);have:=hlt k hk;simp only [aDR,aCu,aC4] at hm;rcases hm with rfl | hm | hm
   ·omega
   ·have:=Dx k hm;omega
   ·exact (hE k hm).1 hk
  ·exact absurd (by simpa using hc) he
def TK (ty:Nat):Obj→Bool
 | .cells _ t _=>!(Nat.beq t ty)
 | _=>true
theorem St.AF {wb w:World} {D:Ctx} {H:List Br} (h:St wb D H w) {b:Nat} {cs:Array Value} {ty:Nat} {fz:Nat × Nat} (hb:w.heap[b]?=some (.cells cs ty fz)) (hn:(H.all fun e=>TK ty e.2.1)=true:=by rfl) (hr:b∉D.ro.map (·.1):=by simp [D0]):St wb D ((b,.cells cs ty fz,false) :: H) w :=
 h.AH hb (fun hm=>by
  obtain ⟨e,he,rfl⟩:=List.mem_map.1 hm;have h1:=List.all_eq_true.1 hn e he;have h2:=h.at_ e he;rw [hb] at h2;rw [← aDo h2] at h1;simp [TK] at h1) hr
theorem tR {m:Mn} (h1:m.a=0) (h2:m.w=0) (h3:m.n=0) (c q lag:Int):HL m c q lag=HL .zero c q lag:=by
 have r1:m.right=true:=Cm.2 (.inl ⟨h3,h2,h1⟩);have r2:Mn.zero.right=true:=by decide
 unfold HL;rw [r1,r2,h3,show Mn.zero.n=0 from rfl,if_pos (rfl:(0:Int)=0),if_pos (rfl:(0:Int)=0)]
theorem Cn.Gk {w:World} {sb:Nat} {A:As} {F:List Nat} (h:Cn w sb A F):∃ qb mb m tb QK cq,w.heap[sb]?=some (Wn qb mb)∧w.heap[qb]?=some (Lc m tb QK cq)∧m.In∧K6 w qb A∧(∀ c q lag,HL m c q lag=HL (mA A) c q lag)∧(A.l≠[]→m=mA A)∧sb∈F∧qb∈F:=by
 obtain ⟨s,⟨qb,mb,Fq,rfl,h1,h2,h3,h4⟩,hr⟩:=h;have h3':=h3;obtain ⟨tb,QK,Ft,rfl,k1,k2,k3,k4,k5⟩:=h3;have hm:=hr.uO;unfold Ta at hm;refine ⟨qb,mb,s.q.m,tb,QK,s.q.c,h1,k1,k4,⟨s,_,h3',hr⟩,fun c q lag=>?_,fun e=>by rwa [if_neg e] at hm,by simp,by simp⟩;by_cases e:A.l=[]
 ·rw [if_pos e] at hm;rw [tR hm.1 hm.2.1 hm.2.2];unfold mA its;rw [e];rfl
 ·rw [if_neg e] at hm;rw [hm]
theorem Pw (q:Int) (w0:World):AO prog 111 #[.int .u32 q] w0 fun v w'=>v = .bool (Eo q)∧AB [] w0 w':=by
 have hs:=St.nil w0;refine AS func111 ntmps111 ?_;refine Ja ?_;refine cl (h:=by exact FG ⟨0,0,q⟩ _) ?_;rw [show (⟨0,0,q⟩:Pt).right=Eo q by unfold Pt.right Eo;by_cases h:1≤q <;> simp [h] <;> omega];rintro v w' ⟨rfl,ho⟩;replace hs:=hs.AP ho;refine Jc ?_;refine AG ?_;exact ⟨rfl,hs.AE rfl⟩
theorem Sp (n:Int) (w0:World):AO prog 117 #[.int .u64 n] w0 fun v w'=>v = .bool (EZ n)∧AB [] w0 w':=by
 have hs:=St.nil w0;refine AS func117 ntmps117 ?_
 repeat' (first|refine Sf ?_|((with_reducible apply BV);exact rfl;exact rfl;intro c hc;(fail_if_success have:true=c:=hc);(fail_if_success have:false=c:=hc);cases c)|fail)
 all_goals (refine AG ?_)
 all_goals refine ⟨?_,hs.AE rfl⟩
 all_goals clear hs
 ·have h1:decide (1≤n)=false:=hc;unfold EZ;rw [h1];rfl
 ·have h1:decide (1≤n)=true:=hc;unfold EZ;rw [h1];rfl
def CQ (r:Rq):RT:=if h:r.In then ⟨r,h⟩ else ⟨.zero,by decide⟩
theorem Ij {r:Rq} (h:r.In):(CQ r).1=r:=by unfold CQ;rw [dif_pos h]
def Lg (A:As) (q lag:Int):Option Pt:=HL (mA A) (L2 A) q lag
def IL (c:Cs) (id q ns lag:Int):Option RT:=(Lg c.A q lag).bind fun p=>(newR p id ns).map CQ
theorem vR {m:Mn} {c q lag:Int} {p:Pt} (hc:BY c) (hq:Fb q) (h:HL m c q lag=some p):p.In:=by
 unfold HL at h;split at h
 ·split at h
  ·cases h;exact ⟨hc,(show Fb 0 by decide),hq⟩
  ·split at h
   ·exact (at_some h).1
   ·cases h
 ·cases h
theorem uL {s:Ss} {A:As} (h:BN s A) (hc:BY s.q.c):BY (L2 A):=by
 rw [← h.now];exact Tf hc
theorem tI {p:Pt} {id n:Int} {r:Rq} (hp:p.In) (hi:In64 id) (hn:BY n) (h:newR p id n=some r):r.In∧r.right=true:=Mv (⟨⟨hp,hi,(by decide:Pt.zero.In)⟩,hn,hn⟩:Rq.In ⟨⟨p,id,.zero⟩,n,n,false⟩) h
theorem K6.aBE {w:World} {qb:Nat} {A:As} (h:K6 w qb A):BY (L2 A):=by
 obtain ⟨s,F,⟨tb,mb,Ft,rfl,k1,k2,k3,k4,k5⟩,hr⟩:=h;exact uL hr k5
def Bn (c:Cs) (id q ns lag:Int):Int × Cs :=
 if id < 1∨Eo q=false∨EZ ns=false then (2,c) else if (Al c.A.l id).isSome then (13,c) else if c.A.l.length=32 then (7,c) else
  match IL c id q ns lag with
  | none=>(8,c)
  | some r=>if FT c.A r=0 then (0,⟨Gj c.A r,c.run,Ea c.carr (C2 (Gj c.A r) id)⟩) else (FT c.A r,c)
theorem gZ (b2 b3 b4 b5:Nat) (c:Cs) (id q ns lag:Int) (wb w0:World) (hid:In64 id) (hq:Fb q) (Dd:BY ns) (Hu:In64 lag)
 (B2:w0.heap[b2]?=some (.cells #[.int .i64 id] 3 (0,0))) (B3:w0.heap[b3]?=some (.cells #[.int .u32 q] 49 (0,0))) (B4:w0.heap[b4]?=some (.cells #[.int .u64 ns] 22 (0,0))) (B5:w0.heap[b5]?=some (.cells #[.int .i64 lag] 2 (0,0))) :
 OK wb w0 129 [.pointer (some ⟨b2,0,none⟩),.pointer (some ⟨b3,0,none⟩),.pointer (some ⟨b4,0,none⟩),.pointer (some ⟨b5,0,none⟩)] [] (fun _=>True) c (Bn c id q ns lag).1 (Bn c id q ns lag).2 .none:=by
 intro cb rb F hC hR ZL hrb;have FB:=hC;have Mg:=hR;obtain ⟨sb,Fs,rfl,h1,hS,h3,h4⟩:=hC;obtain ⟨qb,mb,m,tb,QK,cq,g1,g2,gin,gQ,gpl,gm,_,_⟩:=hS.Gk;have hs:=(((((((St.nil w0).AF h1).AF g1).AF g2).AF B2).AF B3).AF B4).AF B5;refine AS func129 ntmps129 ?_;refine Ja ?_;refine dr [] hs ?_;intro hX w hs;refine tks 0 5 ?_;refine Gq 9 9 hs ?_;intro f X w hp;have hs:=hp.st;apply BI 5 9 (f:=f) (X:=X) hX hp;exact rfl;exact rfl;(apply AT AJ;exact rfl);kernel_rfl;kernel_rfl;kernel_rfl;kernel_rfl;(intro X Y;(repeat (first | exact A4 | refine A5 ?_ (by exact rfl))));(intro w' hs;first|exact AI hs.hold|exact AI hs.hold.tail|exact Ab rfl);intro f X w hp;have hs:=hp.st;have ho:=hs.AD [] (by simp [h1,g1,g2,B2,B3,B4,B5]) sD;refine cl (h:=by exact J7 sb c.A Fs id _ (hS.only ho) hid) ?_;rintro v w' ⟨rfl,ho⟩;replace hp:=hp.only ho;replace hs:=hp.st;refine Jn ?_;refine tk 6 hX (hc:=by cases f <;> kernel_rfl) (k:=?_);refine tk 7 hX (hc:=by cases f <;> kernel_rfl) (k:=?_);refine tk 8 hX (hc:=by cases f <;> kernel_rfl) (k:=?_);apply Bb 9 (f:=f) (X:=X) hX hp;exact rfl;(apply AT AJ;exact rfl);kernel_rfl;kernel_rfl;(intro X Y;(repeat (first | exact A4 | refine A5 ?_ (by exact rfl))));(intro w' hs;first|exact AI hs.hold|exact AI hs.hold.tail|exact Ab rfl);intro b w hI hs;refine dt 10 hX ?_
 repeat' (first|refine Nx.h ?_|(refine AV hs ?_;intro w hs)|fail)
 refine dn ?_;refine tk 11 hX ?_;refine en ?_;refine Jb ?_;refine Aq ?_
 have eJ:Bn c id q ns lag=if id < 1∨Eo q=false∨EZ ns=false then (2,c) else if (Al c.A.l id).isSome then (13,c) else if c.A.l.length=32 then (7,c) else
  match IL c id q ns lag with
  | none=>(8,c)
  | some r=>if FT c.A r=0 then (0,⟨Gj c.A r,c.run,Ea c.carr (C2 (Gj c.A r) id)⟩) else (FT c.A r,c):=rfl
 generalize Bn c id q ns lag=J at *
 have bad:∀ (n:Int) (w':World),J=(n,c)→n≠0→AB [] w0 w'→Value.int .i64 n = .int .i64 J.1∧True∧(J.1=0→∃ F2 Fr,Bh w' cb J.2 F2∧DS w' rb .none Fr∧(∀ k∈F2,k∈cb :: Fs∨w0.heap.size≤k)∧∀ k∈Fr,k=rb∨w0.heap.size≤k)∧AB (rb :: (cb :: Fs) ++ []) w0 w':=fun n w' e hn ho=>by
  subst e;exact ⟨rfl,trivial,fun h=>absurd h hn,ho.weaken AA⟩
 refine vs ?_;refine vs ?_;by_cases c1:id < 1
 ·rw [if_pos (.inl c1)] at eJ;rw [decide_eq_true c1];refine Jh ?_;refine AG ?_;exact bad 2 _ eJ (by decide) (hs.AD [] (by simp [h1,g1,g2,B2,B3,B4,B5]) sD)
 rw [decide_eq_false c1];refine Jf ?_;refine cl (h:=by exact Pw q _) ?_;cases c2:Eo q
 ·rw [if_pos (.inr (.inl c2))] at eJ;rintro v w' ⟨rfl,ho⟩;replace hs:=hs.AP ho;refine Jh ?_;refine AG ?_;exact bad 2 _ eJ (by decide) (hs.AD [] (by simp [h1,g1,g2,B2,B3,B4,B5]) sD)
 rintro v w' ⟨rfl,ho⟩;replace hs:=hs.AP ho;refine Jf ?_;refine cl (h:=by exact Sp ns _) ?_;cases c3:EZ ns
 ·rw [if_pos (.inr (.inr c3))] at eJ;rintro v w' ⟨rfl,ho⟩;replace hs:=hs.AP ho;refine Je ?_;refine AG ?_;exact bad 2 _ eJ (by decide) (hs.AD [] (by simp [h1,g1,g2,B2,B3,B4,B5]) sD)
 rw [if_neg (by simp [c1,c2,c3])] at eJ
 rintro v w' ⟨rfl,ho⟩;replace hs:=hs.AP ho;repeat' (first|refine Sd ?_|refine xc_cond rfl (fun hc=>?_) fun hc=>?_|fail)
 ·rw [if_pos hc] at eJ;refine AG ?_;exact bad 13 _ eJ (by decide) (hs.AD [] (by simp [h1,g1,g2,B2,B3,B4,B5]) sD)
 rw [if_neg (by simp [hc])] at eJ;have ho:=hs.AD [] (by simp [h1,g1,g2,B2,B3,B4,B5]) sD;refine AZ hs (h:=by exact pZ qb c.A _ (gQ.only ho)) ?_;intro w' ho hs;repeat' (first|refine Sa ?_|refine Aw rfl (fun hc=>?_) fun hc=>?_|fail)
 ·rw [if_pos om] at eJ;refine AG ?_;exact bad 7 _ eJ (by decide) (hs.AD [] (by simp [h1,g1,g2,B2,B3,B4,B5]) sD)
 rw [if_neg om] at eJ;refine dr [] hs ?_;intro hX w hs;refine tks 0 17 ?_;refine tks 18 2 ?_;refine Gq 24 11 hs ?_;intro f X w hp;have hs:=hp.st;apply BI 17 24 (f:=f) (X:=X) hX hp;exact rfl;exact rfl;(apply AT AJ;exact rfl);kernel_rfl;kernel_rfl;kernel_rfl;kernel_rfl;(intro X Y;(repeat (first | exact A4 | refine A5 ?_ (by exact rfl))));(intro w' hs;first|exact AI hs.hold|exact AI hs.hold.tail|exact Ab rfl);intro f X w hp;have hs:=hp.st;have ho:=hs.AD [] (by simp [h1,g1,g2,B2,B3,B4,B5]) sD;refine cl (h:=by exact oQ qb c.A _ (gQ.only ho)) ?_;rintro v w' ⟨rfl,ho⟩;replace hp:=hp.only ho;replace hs:=hp.st;refine Jn ?_;apply BI 20 24 (f:=f) (X:=X) hX hp;exact rfl;exact rfl;(apply AT AJ;exact rfl);kernel_rfl;kernel_rfl;kernel_rfl;kernel_rfl;(intro X Y;(repeat (first | exact A4 | refine A5 ?_ (by exact rfl))));(intro w' hs;first|exact AI hs.hold|exact AI hs.hold.tail|exact Ab rfl);intro f X w hp;have hs:=hp.st;have aBR:=gQ.aBE;have eP:IL c id q ns lag=(Lg c.A q lag).bind fun p=>(newR p id ns).map CQ:=rfl;have mZ:∀ p,Lg c.A q lag=some p→p.In:=fun p h=>vR aBR hq h;refine cl (h:=by exact Ur m (L2 c.A) q lag gin hq Hu _) ?_;rw [show HL m (L2 c.A) q lag=Lg c.A q lag from gpl _ _ _];generalize Lg c.A q lag=op at *;cases op with
 | none =>
   rw [show IL c id q ns lag=none from eP] at eJ;rintro v w' ⟨rfl,ho⟩;replace hp:=hp.only ho;replace hs:=hp.st;refine Jn ?_;refine tk 21 hX (hc:=by cases f <;> kernel_rfl) (k:=?_);refine tk 22 hX (hc:=by cases f <;> kernel_rfl) (k:=?_);refine tk 23 hX (hc:=by cases f <;> kernel_rfl) (k:=?_);apply Bb 24 (f:=f) (X:=X) hX hp;exact rfl;(apply AT AJ;exact rfl);kernel_rfl;kernel_rfl;(intro X Y;(repeat (first | exact A4 | refine A5 ?_ (by exact rfl))));(intro w' hs;first|exact AI hs.hold|exact AI hs.hold.tail|exact Ab rfl);intro b w hI hs;refine dt 25 hX ?_
   repeat' (first|refine Nx.h ?_|(refine AV hs ?_;intro w hs)|fail)
   refine dn ?_;refine tk 26 hX ?_;refine en ?_;refine Ja ?_;refine cl (h:=by exact LV .zero id ns (by decide) hid Dd _) ?_;generalize newR .zero id ns=o;cases o
   ·rintro v w' ⟨rfl,ho⟩;replace hs:=hs.AP ho;repeat' (first|refine Se ?_|(refine AV hs ?_;intro w hs)|(refine al hs ?_;intro b w hz hs)|fail)
    refine AG ?_;exact bad 8 _ eJ (by decide) (hs.AD [] (by simp [h1,g1,g2,B2,B3,B4,B5]) sD)
   ·rintro v w' ⟨rfl,ho⟩;replace hs:=hs.AP ho;repeat' (first|refine Se ?_|(refine AV hs ?_;intro w hs)|(refine al hs ?_;intro b w hz hs)|fail)
    refine AG ?_;exact bad 8 _ eJ (by decide) (hs.AD [] (by simp [h1,g1,g2,B2,B3,B4,B5]) sD)
 | some p =>
   have Nl:=mZ p rfl;have sP:IL c id q ns lag=(newR p id ns).map CQ:=eP;rintro v w' ⟨rfl,ho⟩;replace hp:=hp.only ho;replace hs:=hp.st;refine Jn ?_;refine tk 21 hX (hc:=by cases f <;> kernel_rfl) (k:=?_);refine tk 22 hX (hc:=by cases f <;> kernel_rfl) (k:=?_);refine tk 23 hX (hc:=by cases f <;> kernel_rfl) (k:=?_);apply Bb 24 (f:=f) (X:=X) hX hp;exact rfl;(apply AT AJ;exact rfl);kernel_rfl;kernel_rfl;(intro X Y;(repeat (first | exact A4 | refine A5 ?_ (by exact rfl))));(intro w' hs;first|exact AI hs.hold|exact AI hs.hold.tail|exact Ab rfl);intro b w hI hs;refine dt 25 hX ?_
   repeat' (first|refine Nx.h ?_|(refine AV hs ?_;intro w hs)|fail)
   refine dn ?_;refine tk 26 hX ?_;refine en ?_;refine Ja ?_;refine cl (h:=by exact LV p id ns Nl hid Dd _) ?_;cases hr:newR p id ns with
   | none =>
     rw [hr] at sP;rw [show IL c id q ns lag=none from sP] at eJ
     rintro v w' ⟨rfl,ho⟩;replace hs:=hs.AP ho;repeat' (first|refine Sc ?_|(refine AV hs ?_;intro w hs)|(refine al hs ?_;intro b w hz hs)|fail)
     refine AG ?_;exact bad 8 _ eJ (by decide) (hs.AD [] (by simp [h1,g1,g2,B2,B3,B4,B5]) sD)
   | some r =>
     obtain ⟨Wq,rrt⟩:=tI Nl hid Dd hr;rw [hr] at sP;rw [show IL c id q ns lag=some ⟨r,Wq⟩ by rw [sP];exact congrArg some (dif_pos Wq)] at eJ;simp only at eJ
     rintro v w' ⟨rfl,ho⟩;replace hs:=hs.AP ho;repeat' (first|refine Sd ?_|(refine AV hs ?_;intro w hs)|(refine al hs ?_;intro b w hz hs)|fail)
     have ho:=hs.AD [] (by simp [h1,g1,g2,B2,B3,B4,B5]) sD;have x1:=hs.get (b:=cb) (o:=Ez sb c.run c.carr) AX;have x2:=hs.get (b:=b) AX;have x3:=hs.get (b:=b2) AX;have hb:=hs.new _ aCw rfl;simp only at hb;clear hs;have hs:=(((St.nil _).AF x1).AF x2).AF x3;refine dr [] hs ?_;intro hX w hs;refine tks 0 5 ?_;refine dt 5 hX ?_;have AL:=hs.AD [] (by simp [x1,x2,x3]) sD;have Gw:=hS.only (ho.trans AL);refine cl (h:=by exact dV sb c.A Fs ⟨r,Wq⟩ _ Gw) ?_;rintro v w2 ⟨rfl,F2,E7,D6,AN⟩;have n1:cb∉Fs:=Bh.Ny h1 hS;have n2:b∉Fs:=Gw.not (hs.get (b:=b) AX) rfl;have n3:b2∉Fs:=hS.not B2 rfl;have y1:=AN.block (hs.get (b:=cb) (o:=Ez sb c.run c.carr) AX) n1;have y2:=AN.block (hs.get (b:=b) AX) n2;have y3:=AN.block (hs.get (b:=b2) AX) n3;have BF:AB (rb :: (cb :: Fs) ++ []) w0 w2:=((ho.trans AL).weaken AA).step AN (fun k hk => .inl (by simp [hk]));have O2:=(ho.trans AL).size
     have LR:DS w2 rb .none [rb]:=(hR.only (ho.trans AL)).Ai AN (fun k hk hm=>by
      obtain rfl:=List.mem_singleton.1 hk;exact Mg.apart FB k AA (by simp [hm]))
     clear hs;have hs:=(((St.nil w2).AF y1).AF y2).AF y3;refine Jn ?_;refine tk 6 hX ?_;refine en ?_;by_cases hE:FT c.A ⟨r,Wq⟩=0
     ·rw [if_pos hE] at eJ;rw [hE];refine Jd ?_;have AU:=hs.AD [] (by simp [y1,y2,y3]) sD;have L8:Bh w2 cb ⟨Gj c.A ⟨r,Wq⟩,c.run,c.carr⟩ (cb :: F2):=⟨sb,F2,rfl,y1,E7,h3,h4⟩;refine AZ hs (h:=by exact MP cb ⟨Gj c.A ⟨r,Wq⟩,c.run,c.carr⟩ _ id _ (L8.only AU) hid) ?_;intro w' ho hs;skip;have Ar:=hs.AD [] (by simp [y1,y2,y3]) sD;obtain ⟨s2,aAs⟩:=E7.rep;have Qc:=E7.only Ar;refine cl (h:=by exact Lz cb sb c.run c.carr _ _ (hs.get (b:=cb) (o:=Ez sb c.run c.carr) AX) h3 (ND aAs id)) ?_;rintro v w5 ⟨kC,BL⟩;have n5:cb∉F2:=Bh.Ny y1 E7;clear hs;have hs:=St.nil w5;refine Ja ?_;refine AG ?_;have Ao:=hs.AE rfl;subst eJ;have Bd:=(Ar.weaken (G:=[cb]) AA).step BL (fun k hk => .inl hk)
      refine ⟨rfl,trivial,fun _=>⟨cb :: F2,[rb],⟨sb,F2,rfl,Ao.block kC AA,(Qc.Ai BL (fun k hk hm=>by obtain rfl:=List.mem_singleton.1 hm;exact n5 hk)).only Ao,MF _ _,h4⟩,((LR.Ai Bd (fun k hk hm=>by
       obtain rfl:=List.mem_singleton.1 hk;obtain rfl:=List.mem_singleton.1 hm;exact Mg.apart FB k AA AA)).only Ao),fun k hk=>?_,fun k hk => .inl (by simpa using hk)⟩,(BF.step Bd (fun k hk => .inl (by obtain rfl:=List.mem_singleton.1 hk;simp))).step Ao AA⟩
      rcases aCu.1 hk with rfl | hk
      ·simp
      ·rcases D6 k hk with h | h
       ·simp [h]
       ·exact .inr om
     ·rw [if_neg hE] at eJ;subst eJ;generalize FT c.A ⟨r,Wq⟩=n at *
      repeat' (first|refine Sa ?_|refine xc_cond rfl (fun hc=>?_) fun hc=>?_|fail)
      ·refine AG ?_;have Ao:=hs.AD [] (by simp [y1,y2,y3]) sD;exact ⟨rfl,trivial,fun h=>absurd h hE,BF.step Ao AA⟩
      ·exact absurd (by simpa using hc) hE
theorem Qw (cb:Nat) (c:Cs) (F:List Nat) (id q ns lag:Int) (w0:World) (h:Bh w0 cb c F) (hid:In64 id) (hq:Fb q) (Dd:BY ns) (Hu:In64 lag) :
 AO prog 93 #[.pointer (some ⟨cb,0,none⟩),.int .i64 id,.int .u32 q,.int .u64 ns,.int .i64 lag] w0 fun v w'=>∃ rv,v = .tuple #[rv,.int .i64 (Bn c id q ns lag).1]∧M0 w' rv (BO (Bn c id q ns lag).1 (Bn c id q ns lag).2 .none) ∧
  (∃ F',Bh w' cb (CU c (Bn c id q ns lag).1 (Bn c id q ns lag).2) F'∧∀ k∈F',k∈F∨w0.heap.size≤k)∧AB [cb] w0 w':=by
 have hs:=St.nil w0;refine AS func93 ntmps93 ?_;refine Ah ?_;refine Aq ?_;refine bx hs ?_;intro b6 w _ hs;refine bx hs ?_;intro b7 w _ hs;refine bx hs ?_;intro b8 w _ hs;refine bx hs ?_;intro b9 w _ hs;refine al hs ?_;intro Ew w hz hs;refine Ja ?_;have ho:=hs.AE rfl;have hz:=ho.size;have x6:=hs.get (b:=b6) AX;have x7:=hs.get (b:=b7) AX;have x8:=hs.get (b:=b8) AX;have x9:=hs.get (b:=b9) AX;have IJ:=hs.get (b:=Ew) AX;have Ej:=h.only ho;have hb:=hs.new _ aCw rfl;simp only at hb;refine cl (h:=by exact Jw cb c F _ Ej 129 [.pointer (some ⟨b6,0,none⟩),.pointer (some ⟨b7,0,none⟩),.pointer (some ⟨b8,0,none⟩),.pointer (some ⟨b9,0,none⟩)] [] (fun _=>True) (Bn c id q ns lag).1 (Bn c id q ns lag).2 .none (fun _ _ _ _ _ _=>trivial) AA (by simp [Rp.none]) (fun w1 AL=>gZ b6 b7 b8 b9 c id q ns lag _ w1 hid hq Dd Hu (AL.block x6 AA) (AL.block x7 AA) (AL.block x8 AA) (AL.block x9 AA))) ?_;rintro v w2 ⟨rv,rfl,_,IG,⟨F',hC',C0⟩,AN⟩;obtain ⟨vg,vp,Gg,Gp,rfl,p1,p2⟩:=IG;obtain ⟨ag,cg,rfl⟩:=BU p1;obtain ⟨ap,cp,rfl⟩:=BU p2;have x2:=AN.block IJ (fun hm=>by obtain rfl:=List.mem_singleton.1 hm;exact Ej.not IJ rfl (by obtain ⟨_,_,rfl,_⟩:=Ej;simp));clear hs;have hs:=(St.nil w2).AF x2
 repeat' (first|refine Sb ?_|(refine AV hs ?_;intro w hs)|fail)
 refine AG ?_;have AU:AB [Ew] w2 _:=hs.AD [Ew] AA sD
 exact ⟨_,rfl,⟨_,_,Gg,Gp,rfl,p1.keep AU (fun k hk hm=>by obtain rfl:=List.mem_singleton.1 hm;exact BQ p1 x2 (by decide) hk),p2.keep AU (fun k hk hm=>by obtain rfl:=List.mem_singleton.1 hm;exact BQ p2 x2 (by decide) hk)⟩,⟨F',hC'.Ai AU (fun k hk hm=>by obtain rfl:=List.mem_singleton.1 hm;exact hC'.not x2 rfl hk),fun k hk=>by
  rcases C0 k hk with h | h
  ·exact .inl h
  ·exact .inr om⟩,((ho.weaken AA).step AN (fun k hk => .inl hk)).step AU (fun k hk => .inr (by obtain rfl:=List.mem_singleton.1 hk;exact hb))⟩
theorem LF (l:List RT) (i:Int):(DI l i).In:=by
 unfold DI;cases Al l i with
 | none=>decide
 | some a=>exact a.2
def BW (c:Cs) (most:Int):Int:=EJ most (DI c.A.l c.run).left
def Fk (c:Cs) (most:Int):Option (Rq × Bool):=DH (DI c.A.l c.run) (BW c most)
def DG (c:Cs) (most:Int):RT:=CQ (match Fk c most with | some x=>x.1 | none => .zero)
def E0 (c:Cs) (most:Int):Int:=Dz c.A (DG c most)
def DL (c:Cs) (most:Int):Cs:=⟨GR c.A (DG c most),c.run,c.carr⟩
def La (c:Cs) (most:Int):Pr:=⟨c.run,BW c most,match Fk c most with | some x=>x.2 | none=>false⟩
def Hv (c:Cs) (most:Int) (r:Rp):Rp:=⟨r.g ++ Da (DL c most),r.p ++ [La c most]⟩
theorem Yu (c:Cs) (most:Int) (hm:BY most):(DG c most).1=(match Fk c most with | some x=>x.1 | none => .zero)∧BY (BW c most):=by
 have h1:BY (BW c most):=RQ hm (LF _ _).2.1;refine ⟨Ij ?_,h1⟩;cases e:Fk c most with
 | none=>show Rq.zero.In;decide
 | some x=>exact Ty (LF c.A.l c.run) h1 (show DH _ _=some (x.1,x.2) from e)
theorem Y2 (l:List Pr) (p:Pr):Su (l ++ [p])=Su l ++ p.cells:=by simp [Su]
theorem gY (cb rb:Nat) (c:Cs) (most:Int) (r:Rp) (F Fr:List Nat) (w0:World) (h:Bh w0 cb c F) (hr:DS w0 rb r Fr) (hm:BY most) (hg:r.g.length≤1000000) (hp':r.p.length < 2000000000000) :
 AO prog 96 #[.pointer (some ⟨cb,0,none⟩),.int .u64 most,.pointer (some ⟨rb,0,none⟩)] w0 fun v w'=>v = .tuple #[.int .u64 (if E0 c most=0 then BW c most else 0),.int .i64 (E0 c most)] ∧
  (E0 c most=0→∃ F' iF,Bh w' cb (DN (DL c most)) F'∧DS w' rb (Hv c most r) iF∧(∀ k∈F',k∈F∨w0.heap.size≤k)∧(∀ k∈iF,k∈Fr∨w0.heap.size≤k))∧AB (F ++ Fr) w0 w':=by
 have FB:=h;have Mg:=hr;have hap:=hr.apart h;obtain ⟨sb,Fs,rfl,h1,hS,h3,h4⟩:=h;obtain ⟨vg,vp,Gg,Gp,rfl,r1,r2,r3⟩:=hr;have hs:=((St.nil w0).AF h1).AF r1;refine AS func96 ntmps96 ?_;refine Ja ?_;refine dr [] hs ?_;intro hX w hs;refine tks 0 8 ?_;refine Gq 12 8 hs ?_;intro f X w hp;have hs:=hp.st;apply BI 8 12 (f:=f) (X:=X) hX hp;exact rfl;exact rfl;(apply AT AJ;exact rfl);kernel_rfl;kernel_rfl;kernel_rfl;kernel_rfl;(intro X Y;(repeat (first | exact A4 | refine A5 ?_ (by exact rfl))));(intro w' hs;first|exact AI hs.hold|exact AI hs.hold.tail|exact Ab rfl);intro f X w hp;have hs:=hp.st;have ho:=hs.AD [] (by simp [h1,r1]) sD;refine cl (h:=by exact J7 sb c.A Fs c.run _ (hS.only ho) h4) ?_;have hx:=LF c.A.l c.run;obtain ⟨eY,eN⟩:=Yu c most hm;have eN':BW c most=EJ most (DI c.A.l c.run).left:=rfl;have eO:Fk c most=DH (DI c.A.l c.run) (BW c most):=rfl;have eP:La c most=⟨c.run,BW c most,match Fk c most with | some x=>x.2 | none=>false⟩:=rfl;have eE:E0 c most=Dz c.A (DG c most):=rfl;have eA:DL c most=⟨GR c.A (DG c most),c.run,c.carr⟩:=rfl;have eR:Hv c most r=⟨r.g ++ Da (DL c most),r.p ++ [La c most]⟩:=rfl;generalize DI c.A.l c.run=x at *;rintro v w' ⟨rfl,ho⟩;replace hp:=hp.only ho;replace hs:=hp.st;refine Jn ?_;refine tk 9 hX (hc:=by cases f <;> kernel_rfl) (k:=?_);refine tk 10 hX (hc:=by cases f <;> kernel_rfl) (k:=?_);refine tk 11 hX (hc:=by cases f <;> kernel_rfl) (k:=?_);apply Bb 12 (f:=f) (X:=X) hX hp;exact rfl;(apply AT AJ;exact rfl);kernel_rfl;kernel_rfl;(intro X Y;(repeat (first | exact A4 | refine A5 ?_ (by exact rfl))));(intro w' hs;first|exact AI hs.hold|exact AI hs.hold.tail|exact Ab rfl);intro b w hI hs;refine dt 13 hX ?_
 repeat' (first|refine Nx.h ?_|(refine AV hs ?_;intro w hs)|fail)
 refine dn ?_;refine tk 14 hX ?_;refine en ?_;refine Ja ?_;rw [show (if x.left < most then x.left else most)=BW c most from eN'.symm];generalize BW c most=n at *
 have Tz:∃ u bd ok,svV (Fk c most) = .tuple #[rv u,.bool bd,.bool ok]∧(DG c most).1=u∧La c most=⟨c.run,n,bd⟩:=by
  rw [eY,eP];cases Fk c most with
  | none=>exact ⟨_,_,_,rfl,rfl,rfl⟩
  | some y=>exact ⟨_,_,_,rfl,rfl,rfl⟩
 obtain ⟨u,bd,ok,Tz,hYu,hPe⟩:=Tz;rw [eO] at Tz;refine cl (h:=by exact Rw x n hx eN _) ?_;rw [Tz];clear eO eP Tz eY;generalize DG c most=Y at *;generalize La c most=P at *;generalize DL c most=c2 at *;generalize E0 c most=e at *;generalize Hv c most r=R at *;subst hYu hPe
 rintro v w' ⟨rfl,ho⟩;replace hs:=hs.AP ho;repeat' (first|refine Sb ?_|(refine AV hs ?_;intro w hs)|(refine al hs ?_;intro b w hz hs)|fail)
 have ho:=hs.AD [] (by simp [h1,r1]) sD;have x1:=hs.get (b:=cb) (o:=Ez sb c.run c.carr) AX;have x2:=hs.get (b:=b) AX;have x3:=hs.get (b:=rb) (o:=K7 vg vp) AX;clear hs;obtain ⟨bY,rfl⟩:∃ z,z=b:=⟨_,rfl⟩;have hs:=(((St.nil _).AF x1).AF x2).AF x3;refine dr [] hs ?_;intro hX w hs;refine tks 0 5 ?_;refine dt 5 hX ?_;have AL:=hs.AD [] (by simp [x1,x2,x3]) sD;have Gw:=hS.only (ho.trans AL);refine cl (h:=by exact RK sb c.A Fs Y _ Gw) ?_;rw [← eE];rintro v w2 ⟨rfl,F2,E7,D6,AN⟩;have n1:cb∉Fs:=Bh.Ny h1 hS;have n3:rb∉Fs:=hS.not r1 rfl;have y1:=AN.block (hs.get (b:=cb) (o:=Ez sb c.run c.carr) AX) n1;have y3:=AN.block (hs.get (b:=rb) (o:=K7 vg vp) AX) n3;have y2:=AN.block (hs.get (b:=bY) AX) (Gw.not (hs.get (b:=bY) AX) rfl);have BF:AB ((cb :: Fs) ++ (rb :: (Gg ++ Gp))) w0 w2:=((ho.trans AL).weaken AA).step AN (fun k hk => .inl (by simp [hk]));have O2:=(ho.trans AL).size;have LR:DS w2 rb r (rb :: (Gg ++ Gp)):=(Mg.only (ho.trans AL)).Ai AN (fun k hk hm=>hap k hk (by simp [hm]));clear hs;have hs:=(((St.nil w2).AF y1).AF y2).AF y3;refine Jn ?_;refine tk 6 hX ?_;refine en ?_;by_cases he:e=0
 ·subst he;rw [if_pos (rfl:(0:Int)=0)];refine Jd ?_;obtain ⟨vg',vp',rN,qX,eF,q1,q2,q3⟩:=LR;obtain ⟨rfl,rfl⟩:vg=vg'∧vp=vp':=by rw [y3] at q1;simp only [aDd,Obj.cells.injEq] at q1;have:=congrArg Array.toList q1.1;simp at this;exact this
  refine dr [16] hs ?_;intro hX w hs;refine tks 0 12 ?_;refine dt 12 hX ?_
  repeat' (first|refine Nx.h ?_|(refine bs hs ?_;intro b w hz hs)|fail)
  refine dn ?_;refine dt 13 hX ?_;have Bd:=hs.AD [] (by simp [y1,y2,y3]) sD;refine CF AJ rfl rfl rfl rfl rfl rfl rfl (by decide) (lit_cells (news:=Pr.cells ⟨c.run,n,bd⟩) (hs.get At.head)) (by simp [Value.oneCell']) (q3.keep Bd AA) om om ?_;intro v3 w3 ⟨G3,Nv,mY⟩ AU;obtain ⟨a3,sK,rfl⟩:=BU Nv;have d1:∀ k∈qX,k≠cb∧k≠rb∧k≠bY:=fun k hk=>⟨fun e=>BQ q3 y1 (by decide) (e ▸ hk),fun e=>BQ q3 y3 (by decide) (e ▸ hk),fun e=>BQ q3 y2 (by decide) (e ▸ hk)⟩;have z1:=AU.block (hs.get (b:=cb) (o:=Ez sb c.run c.carr) AX) (fun hm=>(d1 _ hm).1 rfl);have z2:=AU.block (hs.get (b:=bY) AX) (fun hm=>(d1 _ hm).2.2 rfl);have z3:=AU.block (hs.get (b:=rb) (o:=K7 vg vp) AX) (fun hm=>(d1 _ hm).2.1 rfl);have cR:AB qX w2 w3:=(Bd.weaken AA).step AU (fun k hk => .inl hk);have Nz:=cR.size;have qQ:=Bd.size
  have aAg:AB (F2 ++ (rb :: (Gg ++ Gp))) w2 w3:=cR.weaken (fun k hk=>by
   have:k∈rb :: (rN ++ qX):=by simp [hk]
   rw [← eF] at this;exact aDE _ this)
  have hSn:∀ k∈F2,k∉qX:=fun k hk hm=>by
   obtain ⟨cs,hc⟩:=L7 q3 k hm;exact E7.not hc rfl hk
  have JQ:=E7.Ai cR hSn;have Td:=q2.keep cR (slv_two q2 q3 (by decide));clear hs;have hs:=(((St.nil w3).AF z1).AF z2).AF z3;refine Jn ?_;refine tks 14 2 ?_;refine dt 16 hX ?_
  repeat' (first|refine Nx.h ?_|(refine st hs ?_;intro w hs)|fail)
  refine dn ?_;refine en ?_;have f1:=hs.get (b:=cb) (o:=Ez sb c.run c.carr) AX;have f3:=hs.get (b:=rb) AX;have CG:AB [rb] w3 _:=hs.AD [rb] (by simp [z1,z2]) sD
  have n4:rb∉F2:=fun hm=>by
   rcases D6 rb hm with h | h
   ·exact n3 h
   ·have:=lt_of_block r1;omega
  have Qc:=JQ.Ai CG (fun k hk hm=>by obtain rfl:=List.mem_singleton.1 hm;exact n4 hk);have hG4:=Td.keep CG (fun k hk hm=>by obtain rfl:=List.mem_singleton.1 hm;exact BQ Td z3 (by decide) hk);have hP4:=Nv.keep CG (fun k hk hm=>by obtain rfl:=List.mem_singleton.1 hm;exact BQ Nv z3 (by decide) hk)
  have hR4:DS _ rb ⟨r.g,r.p ++ [⟨c.run,n,bd⟩]⟩ (rb :: (rN ++ G3)):=⟨_,_,rN,G3,rfl,f3,hG4,by
   unfold U2;rw [aCv,Y2];exact hP4⟩
  have Zh:Bh _ cb c2 (cb :: F2):=⟨sb,F2,rfl,by rw [eA];exact f1,by rw [eA];exact Qc,by rw [eA];exact h3,by rw [eA];exact h4⟩
  have EB:AB ((cb :: Fs) ++ (rb :: (Gg ++ Gp))) w0 _:=(BF.step aAg (fun k hk=>by
   rcases aC4.1 hk with h | h
   ·rcases D6 k h with h | h
    ·exact .inl (by simp [h])
    ·exact .inr om
   ·exact .inl (aDE _ h))).step CG (fun k hk => .inl (by obtain rfl:=List.mem_singleton.1 hk;simp))
  have Kb:∀ k∈cb :: F2,k∈cb :: Fs∨w0.heap.size≤k:=fun k hk=>by
   rcases aCu.1 hk with rfl | hk
   ·simp
   ·rcases D6 k hk with h | h
    ·exact .inl (by simp [h])
    ·exact .inr om
  have aAK:∀ k∈rb :: (rN ++ G3),k∈rb :: (Gg ++ Gp)∨w0.heap.size≤k:=fun k hk=>by
   rw [eF];simp only [aCu,aC4] at hk ⊢;rcases hk with rfl | hk | hk
   ·simp
   ·simp [hk]
   ·have kP:=BF.size;rcases mY k hk with h | h
    ·simp [h]
    ·exact .inr om
  have hzE:=EB.size;refine Ja ?_;refine cl (h:=by exact QH cb rb c2 ⟨r.g,r.p ++ [⟨c.run,n,bd⟩]⟩ _ _ _ Zh hR4 hg) ?_;rintro v w6 ⟨F6,Fr6,fI,jT,WT,aBg,Ao⟩;clear hs;have hs:=St.nil w6;refine Ja ?_;refine AG ?_;have C8:=hs.AE rfl;refine ⟨rfl,fun _=>⟨F6,Fr6,fI.only C8,by rw [eR];exact jT.only C8,fun k hk=>?_,fun k hk=>?_⟩,(EB.step Ao (fun k hk=>?_)).step C8 AA⟩
  ·rcases WT k hk with h | h
   ·exact Kb k h
   ·exact .inr om
  ·rcases aBg k hk with h | h
   ·exact aAK k h
   ·exact .inr om
  ·rcases aC4.1 hk with h | h
   ·rcases Kb k h with h | h
    ·exact .inl (aDC _ h)
    ·exact .inr h
   ·rcases aAK k h with h | h
    ·exact .inl (aDE _ h)
    ·exact .inr h
 ·rw [if_neg he]
  repeat' (first|refine Sa ?_|refine xc_cond rfl (fun hc=>?_) fun hc=>?_|fail)
  ·refine AG ?_;have Ao:=hs.AD [] (by simp [y1,y2,y3]) sD;exact ⟨rfl,fun h=>absurd h he,BF.step Ao AA⟩
  ·exact absurd (by simpa using hc) he
def DB:Nat→Int→Cs→Rp→Int × Cs × Rp
 | 0,_,c,r=>(0,c,r)
 | k+1,left,c,r=>if 0 < left∧c.run≠0 then (if E0 c left=0 then DB k (left - BW c left) (DN (DL c left)) (Hv c left r) else (E0 c left,c,r)) else (0,c,r)
def A7 (c:Cs) (ns:Int):Int × Cs × Rp:=if 1≤ns∧ns≤1099511627776 then DB (ns.toNat+1) ns c .none else (2,c,.none)
theorem L9 {c:Cs} {most:Int} (hm:BY most) (h:E0 c most=0):1≤BW c most∧BW c most≤most:=by
 obtain ⟨h1,h2⟩:=Yu c most hm;unfold E0 Dz GS at h;cases k:(DG c most).1.right with
 | false=>rw [k] at h;cases h
 | true =>
   rw [h1] at k;cases e:Fk c most with
   | none=>rw [e] at k;exact absurd k (by decide)
   | some x =>
     unfold Fk DH at e;split at e
     ·rename_i h3;have:=h2.1;refine ⟨by have:=h3.2.1;omega,?_⟩;show EJ most _≤most;unfold EJ;split <;> omega
     ·cases e
theorem X8:∀ (k:Nat) (left:Int) (c:Cs) (r:Rp),r.p.length≤(DB k left c r).2.2.p.length∧r.g.length≤(DB k left c r).2.2.g.length
 | 0,_,_,_=>⟨aC5 _,aC5 _⟩
 | k+1,left,c,r=>by
   unfold DB;split
   ·split
    ·have:=X8 k (left - BW c left) (DN (DL c left)) (Hv c left r);simp only [Hv,aCv,aCx,aDA] at this ⊢;omega
    ·exact ⟨aC5 _,aC5 _⟩
   ·exact ⟨aC5 _,aC5 _⟩
theorem fK (b2:Nat) (c:Cs) (ns:Int) (wb w0:World) (Dd:BY ns) (B2:w0.heap[b2]?=some (.cells #[.int .u64 ns] 22 (0,0)))
 (hTp:(A7 c ns).2.2.p.length < 2000000000000) (yJ:(A7 c ns).2.2.g.length≤1000000) :
 OK wb w0 95 [.pointer (some ⟨b2,0,none⟩)] [] (fun _=>True) c (A7 c ns).1 (A7 c ns).2.1 (A7 c ns).2.2:=by
 intro cb rb F hC hR ZL hrb;have hap:=hR.apart hC;have hs:=(St.nil w0).AF B2;have eT:A7 c ns=if 1≤ns∧ns≤1099511627776 then DB (ns.toNat+1) ns c .none else (2,c,.none):=rfl
 generalize A7 c ns=T at *
 have bad:∀ (w':World),T=(2,c,.none)→AB [] w0 w'→Value.int .i64 2 = .int .i64 T.1∧True∧(T.1=0→∃ F2 Fr,Bh w' cb T.2.1 F2∧DS w' rb T.2.2 Fr∧(∀ k∈F2,k∈F∨w0.heap.size≤k)∧∀ k∈Fr,k=rb∨w0.heap.size≤k)∧AB (rb :: F ++ []) w0 w':=fun w' e ho=>by
  subst e;exact ⟨rfl,trivial,fun h=>absurd h (show ¬ (2:Int)=0 by decide),ho.weaken AA⟩
 refine AS func95 ntmps95 ?_;refine Jb ?_;refine Aq ?_;refine vs ?_;refine Jb ?_;refine Aq ?_;refine vs ?_;refine vs ?_;by_cases c1:ns < 1
 ·rw [if_neg om] at eT;rw [decide_eq_true c1];refine Jh ?_;refine AG ?_;exact bad _ eT (hs.AD [] (by simp [B2]) sD)
 rw [decide_eq_false c1];refine vs ?_;refine vs ?_;refine vs ?_;by_cases c2:ns > 1099511627776
 ·rw [if_neg om] at eT;rw [decide_eq_true c2];refine Je ?_;refine AG ?_;exact bad _ eT (hs.AD [] (by simp [B2]) sD)
 rw [decide_eq_false c2];rw [if_pos om] at eT;refine Jd ?_;have ho:=hs.AD [] (by simp [B2]) sD
 let Inv (left:Int) (c':Cs) (r:Rp) (F' Fr:List Nat) (w:World):Prop:=BY left∧(∃ k:Nat,left < k∧DB k left c' r=T)∧Bh w cb c' F'∧DS w rb r Fr∧(∀ k∈F',k∈F∨w0.heap.size≤k)∧(∀ k∈Fr,k=rb∨w0.heap.size≤k)∧AB (rb :: F ++ []) w0 w
 refine BM (fun (_:Unit)=>[]) (fun _ w=>T.1=0∧∃ F2 Fr,Bh w cb T.2.1 F2∧DS w rb T.2.2 Fr∧(∀ k∈F2,k∈F∨w0.heap.size≤k)∧(∀ k∈Fr,k=rb∨w0.heap.size≤k)∧AB (rb :: F ++ []) w0 w) ?_ ?_
 ·refine BH (fun (x:Int × Cs × Rp × List Nat × List Nat)=>[(0,.pointer (some ⟨cb,0,none⟩)),(1,.pointer (some ⟨rb,0,none⟩)),(6,.int .u64 x.1)])
   (fun x w=>Inv x.1 x.2.1 x.2.2.1 x.2.2.2.1 x.2.2.2.2 w) (fun x=>x.1.toNat) (ns,c,.none,F,[rb]) Ad ⟨Dd,⟨ns.toNat+1,by omega,eT.symm⟩,hC.only ho,hR.only ho,fun k hk => .inl hk,fun k hk => .inl (by simpa using hk),ho.weaken AA⟩ fun x env wl hI=>?_
  obtain ⟨left,c',r,F',Fr⟩:=x;obtain ⟨hl,⟨k,hk,hT⟩,M6,KJ,Cq,X0,Ap⟩:=hI;simp only at hl hk hT M6 KJ Cq X0;have L8:=M6;obtain ⟨sb,Fs',rfl,q1,q2,q3,q4⟩:=L8;have htl:=X8 k left c' r;rw [hT] at htl;clear hs;have hs:=(St.nil wl).AF q1;cases k with
  | zero=>have:=hl.1;omega
  | succ k =>
  unfold DB at hT;refine Jb ?_;refine Aq ?_;refine vs ?_;refine vs ?_;by_cases l0:left > 0
  ·rw [decide_eq_true l0];by_cases hrun:c'.run=0
   ·rw [if_neg om] at hT;subst hT;have hs0:=hs;rw [hrun] at hs;refine Jl ?_;have ho:=hs.AD [] (by simp [q1,hrun]) sD;exact Au () Ad ⟨rfl,_,_,M6.only ho,KJ.only ho,Cq,X0,Ap.step ho AA⟩
   ·rw [if_pos ⟨by omega,hrun⟩] at hT
    repeat' (first|refine Sa ?_|refine xc_cond rfl (fun hc=>?_) fun hc=>?_|fail)
    ·have ho:=hs.AD [] (by simp [q1]) sD;have hz:=Ap.size;have hzo:=ho.size;refine cl (h:=by exact gY cb rb c' left r _ _ _ (M6.only ho) (KJ.only ho) hl om om) ?_;rintro v w3 ⟨rfl,hok,AU⟩
     have s8:AB (rb :: F ++ []) w0 w3:=(Ap.step ho AA).step AU (fun k hk=>by
      rcases aC4.1 hk with h | h
      ·rcases Cq k h with h | h
       ·exact .inl (by simp [h])
       ·exact .inr h
      ·rcases X0 k h with h | h
       ·exact .inl (by simp [h])
       ·exact .inr h)
     clear hs;have hs:=St.nil w3;by_cases hE:E0 c' left=0
     ·rw [if_pos hE] at hT;obtain ⟨F2,Fr2,a1,a2,a3,a4⟩:=hok hE;obtain ⟨s1,s2⟩:=L9 hl hE;have ew:IntKind.u64.wrap (left - BW c' left)=left - BW c' left:=by rw [wrap_u64];unfold BY at hl;omega
      rw [hE,if_pos rfl];refine Jd ?_;refine A2 (left - BW c' left,DN (DL c' left),Hv c' left r,F2,Fr2) (by show (left - BW c' left).toNat < left.toNat;omega) (by (repeat (first | exact Ag | (apply A8;first | exact rfl | exact congrArg (Value.int .u64) ew | exact congrArg (Value.int .u64) ew)))) ⟨?_,⟨k,?_,hT⟩,a1.only (hs.AE rfl),a2.only (hs.AE rfl),fun k hk=>?_,fun k hk=>?_,s8.step (hs.AE rfl) AA⟩
      ·unfold BY at hl ⊢;simp only;omega
      ·simp only;omega
      ·rcases a3 k hk with h | h
       ·exact Cq k h
       ·exact .inr om
      ·rcases a4 k hk with h | h
       ·exact X0 k h
       ·exact .inr om
     ·rw [if_neg hE] at hT;subst hT;rw [if_neg hE];generalize E0 c' left=e at *
      repeat' (first|refine Sa ?_|refine xc_cond rfl (fun hc=>?_) fun hc=>?_|fail)
      ·refine AG ?_;exact ⟨rfl,trivial,fun h=>absurd h hE,s8.step (hs.AE rfl) AA⟩
      ·exact absurd (by simpa using hc) hE
    ·exact absurd (by simpa using hc) hrun
  ·rw [if_neg om] at hT;subst hT;rw [decide_eq_false l0]
   repeat' (first|refine vs ?_|refine ps ?_|refine Nx.h ?_|refine Eb ?_|fail)
   have ho:=hs.AD [] (by simp [q1]) sD;exact Au () Ad ⟨rfl,_,_,M6.only ho,KJ.only ho,Cq,X0,Ap.step ho AA⟩
 ·clear hs;rintro _ env w ⟨hT0,F2,Fr,a1,a2,a3,a4,s8⟩;have hs:=St.nil w;refine Ja ?_;refine AG ?_;exact ⟨by rw [hT0];rfl,trivial,fun _=>⟨F2,Fr,a1.only (hs.AE rfl),a2.only (hs.AE rfl),a3,a4⟩,s8.step (hs.AE rfl) AA⟩
def HS (w0:World) (cb:Nat) (F:List Nat) (rv:Value) (e:Int) (c c1:Cs) (r1:Rp) (w':World):Prop :=
 M0 w' rv (BO e c1 r1)∧(∃ F',Bh w' cb (CU c e c1) F'∧∀ k∈F',k∈F∨w0.heap.size≤k)∧AB [cb] w0 w'
theorem Xb (cb:Nat) (c:Cs) (F:List Nat) (ns:Int) (w0:World) (h:Bh w0 cb c F) (Dd:BY ns) (hTp:(A7 c ns).2.2.p.length < 2000000000000) (yJ:(A7 c ns).2.2.g.length≤1000000) :
 AO prog 59 #[.pointer (some ⟨cb,0,none⟩),.int .u64 ns] w0 fun v w'=>∃ rv,v = .tuple #[rv,.int .i64 (A7 c ns).1]∧HS w0 cb F rv (A7 c ns).1 c (A7 c ns).2.1 (A7 c ns).2.2 w':=by
 have hs:=St.nil w0;refine AS func59 ntmps59 ?_;refine Ah ?_;refine Aq ?_;refine bx hs ?_;intro b6 w _ hs;refine al hs ?_;intro Ew w hz hs;refine Ja ?_;have ho:=hs.AE rfl;have hz:=ho.size;have x6:=hs.get (b:=b6) AX;have IJ:=hs.get (b:=Ew) AX;have Ej:=h.only ho;have hb:=hs.new _ aCw rfl;simp only at hb;refine cl (h:=by exact Jw cb c F _ Ej 95 [.pointer (some ⟨b6,0,none⟩)] [] (fun _=>True) (A7 c ns).1 (A7 c ns).2.1 (A7 c ns).2.2 (fun _ _ _ _ _ _=>trivial) AA yJ (fun w1 AL=>fK b6 c ns _ w1 Dd (AL.block x6 AA) hTp yJ)) ?_;rintro v w2 ⟨rv,rfl,_,IG,⟨F',hC',C0⟩,AN⟩;obtain ⟨vg,vp,Gg,Gp,rfl,p1,p2⟩:=IG;obtain ⟨ag,cg,rfl⟩:=BU p1;obtain ⟨ap,cp,rfl⟩:=BU p2;have x2:=AN.block IJ (fun hm=>by obtain rfl:=List.mem_singleton.1 hm;exact Ej.not IJ rfl (by obtain ⟨_,_,rfl,_⟩:=Ej;simp));clear hs;have hs:=(St.nil w2).AF x2
 repeat' (first|refine Sb ?_|(refine AV hs ?_;intro w hs)|fail)
 refine AG ?_;have AU:AB [Ew] w2 _:=hs.AD [Ew] AA sD
 exact ⟨_,rfl,⟨_,_,Gg,Gp,rfl,p1.keep AU (fun k hk hm=>by obtain rfl:=List.mem_singleton.1 hm;exact BQ p1 x2 (by decide) hk),p2.keep AU (fun k hk hm=>by obtain rfl:=List.mem_singleton.1 hm;exact BQ p2 x2 (by decide) hk)⟩,⟨F',hC'.Ai AU (fun k hk hm=>by obtain rfl:=List.mem_singleton.1 hm;exact hC'.not x2 rfl hk),fun k hk=>by
  rcases C0 k hk with h | h
  ·exact .inl h
  ·exact .inr om⟩,((ho.weaken AA).step AN (fun k hk => .inl hk)).step AU (fun k hk => .inr (by obtain rfl:=List.mem_singleton.1 hk;exact hb))⟩
theorem aA (p q:Pr):(DQ (.int .i64 p.id) (.int .i64 q.id) && (DQ (.int .u64 p.ns) (.int .u64 q.ns) && DQ (.bool p.done) (.bool q.done)))=decide (p=q):=by
 show ((p.id == q.id) && ((p.ns == q.ns) && (p.done == q.done)))=_;obtain ⟨a,b,c⟩:=p;obtain ⟨a',b',c'⟩:=q;simp only [Pr.mk.injEq];by_cases h1:a=a' <;> by_cases h2:b=b' <;> by_cases h3:c=c' <;> simp [h1,h2,h3]
theorem u7 (va vb:Value) (A B:List Pr) (hm:A.length≤9223372036854775807) (w0:World) (hA:Cu w0 168 3 va (A.map Pr.cells)) (hB:Cu w0 168 3 vb (B.map Pr.cells)) :
 AO prog 232 #[va,vb] w0 fun v w'=>v = .bool (decide (A=B))∧AB [] w0 w':=by
 obtain ⟨WL,ca,rfl,hA⟩:=hA;obtain ⟨XT,cb,rfl,hB⟩:=hB;rw [aC0] at *;rw [aC0] at *;have hs:=St.nil w0;refine AS func232 ntmps232 ?_
 repeat' (first|refine Sa ?_|refine xc_cond rfl (fun hc=>?_) fun hc=>?_|fail)
 ·refine AG ?_;refine ⟨congrArg Value.bool ?_,hs.AE rfl⟩;have hne:A≠B:=fun e=>by subst e;simp at hc
  exact (decide_eq_false hne).symm
 ·have Mf:A.length=B.length:=by
   have h:((A.length:Nat):Int)=B.length:=by simpa using hc
   omega
  refine BM (fun _:Unit=>[]) (fun _ w=>A=B∧AB [] w0 w) ?_ ?_
  ·refine BH (fun (i:Nat)=>[(0,.slice WL A.length ca),(1,.slice XT B.length cb),(12,.int .i64 (A.length:Nat)),(13,.int .i64 (i:Nat))])
    (fun i w=>i≤A.length∧A.take i=B.take i∧AB [] w0 w)
    (fun i=>A.length - i) 0 Ad ⟨aC7 _,by simp,hs.AE rfl⟩ fun i env w ⟨hi,ht,ho⟩=>?_
   clear hs;have hs:=St.nil w
   repeat' (first|refine Sa ?_|refine Aw rfl (fun hc=>?_) fun hc=>?_|fail)
   ·have hlt:i < A.length:=by omega
    have K5:i < B.length:=by omega
    obtain ⟨ba,oa,rI,fa,rfl,a2,a3,a4⟩:=hA (fun h=>by have:=congrArg List.length h;rw [aC0,aDA] at this;omega);obtain ⟨bb,ob,r7,fb,rfl,b2,b3,b4⟩:=hB (fun h=>by have:=congrArg List.length h;rw [aC0,aDA] at this;omega);have ga:=a4 i _ (by rw [aC8,aC3 hlt];rfl);have gb:=b4 i _ (by rw [aC8,aC3 K5];rfl);have a3:=ho.block a3 AA;have b3:=ho.block b3 AA;have key:A[i]=B[i]→A.take (i+1)=B.take (i+1):=fun he=>by rw [aDt,aDt,ht,aC3 hlt,aC3 K5,he]
    have LZ:A[i]≠B[i]→A≠B:=fun h e=>h (by subst e;rfl);have ei:=DP hlt hm;generalize A[i]=x at *;generalize B[i]=y at *;by_cases e:ba=bb
    ·subst e;rw [a3] at b3;cases b3;replace hs:=hs.AH a3 AA;refine dr [] hs ?_;intro hX w hs;refine tks 0 2 ?_;refine tk 2 hX (hr:=fun w' hH=>BA AJ rfl rfl rfl om om) ?_;refine tk 3 hX (hr:=fun w' hH=>Fm AJ rfl rfl (hH rfl) At.head ga) ?_;refine tks 4 2 ?_;refine tk 6 hX (hr:=fun w' hH=>BA AJ rfl rfl rfl om om) ?_;refine tk 7 hX (hr:=fun w' hH=>Fm AJ rfl rfl (hH rfl) At.head gb) ?_;refine tk 8 hX ?_;refine en ?_
     repeat' (first|refine Sa ?_|refine xc_cond rfl (fun hc=>?_) fun hc=>?_|fail)
     ·rw [aA] at hc;refine AG ?_;exact ⟨congrArg Value.bool (decide_eq_false (LZ (by simpa using hc))).symm,ho.step (hs.AD [] (by simp [a3]) sD) AA⟩
     ·rw [aA] at hc;exact A2 (i+1) om (by (repeat (first | exact Ag | (apply A8;first | exact rfl | exact congrArg (Value.int .i64) ei)))) ⟨by omega,key (by simpa using hc),ho.step (hs.AD [] (by simp [a3]) sD) AA⟩
    ·replace hs:=(hs.AH a3 AA).AH b3 (by simpa using Ne.symm e);refine dr [] hs ?_;intro hX w hs;refine tks 0 2 ?_;refine tk 2 hX (hr:=fun w' hH=>BA AJ rfl rfl rfl om om) ?_;refine tk 3 hX (hr:=fun w' hH=>Fm AJ rfl rfl (hH rfl) (At.tail At.head) ga) ?_;refine tks 4 2 ?_;refine tk 6 hX (hr:=fun w' hH=>BA AJ rfl rfl rfl om om) ?_;refine tk 7 hX (hr:=fun w' hH=>Fm AJ rfl rfl (hH rfl) At.head gb) ?_;refine tk 8 hX ?_;refine en ?_
     repeat' (first|refine Sa ?_|refine xc_cond rfl (fun hc=>?_) fun hc=>?_|fail)
     ·rw [aA] at hc;refine AG ?_;exact ⟨congrArg Value.bool (decide_eq_false (LZ (by simpa using hc))).symm,ho.step (hs.AD [] (by simp [a3,b3]) sD) AA⟩
     ·rw [aA] at hc;exact A2 (i+1) om (by (repeat (first | exact Ag | (apply A8;first | exact rfl | exact congrArg (Value.int .i64) ei)))) ⟨by omega,key (by simpa using hc),ho.step (hs.AD [] (by simp [a3,b3]) sD) AA⟩
   ·have e:i=A.length:=by omega
    have Xp:A=B:=by
     have h1:A.take i=A:=aDM om;have h2:B.take i=B:=aDM om;rw [← h1,ht,h2]
    exact Au () Ad ⟨Xp,ho.step (hs.AE rfl) AA⟩
  ·rintro _ env w ⟨rfl,ho⟩;clear hs;have hs:=St.nil w;refine Ja ?_;refine AG ?_;exact ⟨congrArg Value.bool (decide_eq_true rfl).symm,ho.step (hs.AE rfl) AA⟩
end Go.Proofs.Q0
namespace Go.Proofs.Q0
open Go Go.RowKit Tryz
open IB (IT DF Bi)
attribute [local irreducible] XS XC XA AY AR A9 A1 A0 Aa Ae AW SE
def rk:RT:=⟨⟨⟨⟨3,0,1⟩,1,⟨5242883,0,1⟩⟩,5,5,false⟩,by decide⟩
theorem k1:newR ⟨3,0,1⟩ 1 5=some rk.1:=by kernel_rfl
theorem k2:LM (I0 0) rk=0:=by kernel_rfl
theorem k3:(G4 (I0 0) rk).l=[rk]:=by kernel_rfl
theorem k4:(Mk (G4 (I0 0) rk) 1 true).l=[HV rk true]:=by kernel_rfl
theorem k5:Sr (G4 (I0 0) rk) 1=0:=by kernel_rfl
theorem Yl (w0:World) (ht:DJ w0):AO prog 251 #[] w0 fun v w'=>v = .bool true∧AB [] w0 w':=by
 have hs:=St.nil w0;refine AS func251 ntmps251 ?_;refine Ja ?_;refine cl (h:=by exact snew_ret 0 (by decide) _) ?_;rintro v w1 ⟨⟨sb,F0,rfl,hS,Dx⟩,AL⟩;have Dx:∀ k∈F0,w0.heap.size≤k:=fun k hk=>by have:=Dx k hk;have:=hs.size;omega
 have J0:=AL.size;have hq:=hs.AP AL;have TU:=hq.AE rfl;clear hs hq;have hs:=St.nil w1;refine Ja ?_;refine cl (h:=by exact LI sb (I0 0) F0 _ hS (by decide)) ?_;rw [show runN (I0 0).l=0 from rfl];rintro v w2 ⟨rfl,AN⟩;replace hs:=hs.AP AN;refine Jd ?_;refine cl (h:=by exact LV ⟨3,0,1⟩ 1 5 (by decide) (by decide) (by decide) _) ?_;rw [k1]
 rintro v w' ⟨rfl,ho⟩;replace hs:=hs.AP ho;repeat' (first|refine Sa ?_|(refine AV hs ?_;intro w hs)|(refine al hs ?_;intro b w hz hs)|fail)
 have Gw:=hS.only (hs.AE rfl);have hzw:=hs.size;refine cl (h:=by exact enter_ret sb (I0 0) F0 rk _ Gw (by decide) (by decide) (by decide)) ?_;rw [k2];rintro v w3 ⟨rfl,F1,JQ,Cq,AU⟩;replace hs:=hs.call AU (Gw.apart hs rfl) sD
 have Qf:∀ k∈F1,w0.heap.size≤k:=fun k hk=>by
  rcases Cq k hk with h | h
  ·exact Dx k h
  ·omega
 have hm:∀ w',AB (F0 ++ []) w1 w'→AB [] w0 w':=fun w' ho=>TU.step ho (fun k hk=>by
  rw [aDP] at hk;exact .inr (Dx k hk))
 have hm2:∀ w',AB (F1 ++ (F0 ++ [])) w1 w'→AB [] w0 w':=fun w' ho=>TU.step ho (fun k hk=>by
  rw [aDP,aC4] at hk;rcases hk with hk | hk
  ·exact .inr (Qf k hk)
  ·exact .inr (Dx k hk))
 have e3:=k3;have e4:=k4;have e5:=k5;generalize G4 (I0 0) rk=s1 at *;refine Ja ?_;refine cl (h:=by exact YX _ (tab_only ht (hm _ hs.only))) ?_;rintro v w4 ⟨rfl,Ar⟩;replace JQ:=JQ.only Ar;replace hs:=hs.AP Ar;refine Jf ?_;refine cl (h:=by exact LI sb s1 F1 _ JQ (by rw [e3];decide)) (k:=?_);rw [e3,show runN [rk]=1 from rfl];rintro v w5 ⟨rfl,BL⟩;replace JQ:=JQ.only BL;replace hs:=hs.AP BL;refine Jf ?_;refine cl (h:=by exact UG sb s1 F1 1 true _ JQ (by decide) (by rw [e3];decide)) (k:=?_);rw [e5];rintro v w6 ⟨rfl,KV,Ao⟩;replace hs:=hs.call Ao (JQ.apart hs rfl) sD;refine Jf ?_;refine cl (h:=by exact LI sb (Mk s1 1 true) F1 _ KV (by rw [e4];decide)) (k:=?_);rw [e4,show runN [HV rk true]=0 from rfl];rintro v w7 ⟨rfl,C8⟩;replace hs:=hs.AP C8;refine Jc ?_;refine AG ?_;exact ⟨rfl,hm2 _ hs.only⟩
theorem Yh (w0:World) (ht:DJ w0):AO prog 250 #[] w0 fun v w'=>v = .bool true∧AB [] w0 w':=by
 have hs:=St.nil w0;refine AS func250 ntmps250 ?_;refine Ja ?_;refine AZ hs (h:=by exact Yl _ ht) ?_;intro w' ho hs;refine Jc ?_;refine AG ?_;exact ⟨rfl,hs.AE rfl⟩
def rs:RT:=HV rk true
def Oz:Ss:=G4 (I0 0) rs
def g17:Gn:=⟨1,0,rs.1⟩
theorem p1:LM (I0 0) rs=0:=by kernel_rfl
theorem p2:IP Oz=some g17:=by kernel_rfl
theorem p3:Oz.q.f 1=some (BZ rs):=by kernel_rfl
theorem p4:GX (BZ rs) Oz.q.t:=fun _=>⟨by kernel_rfl,by kernel_rfl⟩
theorem p5:IP (Gm Oz 1)=none:=by kernel_rfl
theorem p6:Mx (Gm Oz 1).q=0:=by kernel_rfl
theorem f17:HY Oz [g17] (Gm Oz 1) := .step p2 p3 p4 (.done p5)
theorem YC (w0:World) (ht:DJ w0):AO prog 241 #[] w0 fun v w'=>v = .bool true∧AB [] w0 w':=by
 have hs:=St.nil w0;refine AS func241 ntmps241 ?_;refine Ja ?_;refine cl (h:=by exact snew_ret 0 (by decide) _) ?_;rintro v w1 ⟨⟨sb,F0,rfl,hS,Dx⟩,AL⟩;have Dx:∀ k∈F0,w0.heap.size≤k:=fun k hk=>by have:=Dx k hk;have:=hs.size;omega
 have J0:=AL.size;have hq:=hs.AP AL;have TU:=hq.AE rfl;clear hs hq;have hs:=St.nil w1;refine Ja ?_;refine cl (h:=by exact LV ⟨3,0,1⟩ 1 5 (by decide) (by decide) (by decide) _) ?_;rw [k1]
 rintro v w' ⟨rfl,ho⟩;replace hs:=hs.AP ho;repeat' (first|refine Sa ?_|(refine st hs ?_;intro w hs)|(refine AV hs ?_;intro w hs)|(refine al hs ?_;intro b w hz hs)|fail)
 have Gw:=hS.only (hs.AE rfl);have hzw:=hs.size;refine cl (h:=by exact enter_ret sb (I0 0) F0 rs _ Gw (by decide) (by decide) (by decide)) ?_;rw [p1,show G4 (I0 0) rs=Oz from rfl];rintro v w3 ⟨rfl,F1,JQ,Cq,AU⟩;replace hs:=hs.call AU (Gw.apart hs rfl) sD
 have Qf:∀ k∈F1,w0.heap.size≤k:=fun k hk=>by
  rcases Cq k hk with h | h
  ·exact Dx k h
  ·omega
 have BF:AB [] w0 w3:=TU.step hs.only (fun k hk=>by
  have hk:k∈F0 ++ []:=hk;rw [aDP] at hk;exact .inr (Dx k hk))
 have e6:=p6;have hf:=f17;have hn:=(show Oz.l.length≤1000000 by decide);have hq:=(show Oz.q.t.list.length≤1000000 by decide);generalize Oz=s at *;generalize Gm s 1=s' at *;have Nz:=BF.size;clear hs;have hs:=St.nil w3;refine Jd ?_;refine cl (h:=by exact settle_ret sb s s' [g17] F1 _ JQ hn hq (by decide) hf) ?_;rw [e6];rintro v w4 ⟨sl,rfl,⟨G,hG,DV⟩,F2,Qc,D6,Ar⟩;have hL:=hG.ls (xs:=[g17.cells]) rfl rfl AA;obtain ⟨ad,cap,rfl,hD⟩:=hL;obtain ⟨bb,off,cs,fz,rfl,_,xI,hcs⟩:=hD AA;have hpk:=hcs 0 g17.cells rfl;have Bd:AB [] w0 w4:=BF.step Ar (fun k hk => .inr (Qf k hk));clear hs;have hs:=St.nil w4;refine Ja ?_;refine cl (h:=by exact Yh _ (tab_only ht Bd)) ?_;rintro v w5 ⟨rfl,BL⟩;have XJ:=BL.block xI AA;have EM:=Bd.trans BL;clear hs;have hs:=St.nil w5;refine Jf ?_;refine ix (h0:=(by decide)) (h1:=(by decide)) ?_;refine Jf ?_;refine lh XJ (by cases hpk with | cons h _=>exact h) ?_;refine Jf ?_;refine ix (h0:=(by decide)) (h1:=(by decide)) ?_;refine vs ?_
 have aB1:Dk cs (off+1) 2 [.int .i64 0,.int .u64 0]:=by
  cases hpk with | cons _ h=>cases h with | cons h1 h=>cases h with | cons h2 _=>exact .cons h1 (.cons h2 .nil)
 refine Ia XJ aB1 ?_
 skip
 refine AZ hs (h:=by exact R8 0 (by decide) _) ?_;intro w' ho hs;refine Jc ?_;refine AG ?_;exact ⟨rfl,EM.trans (hs.AE rfl)⟩
end Go.Proofs.Q0
namespace Go.Proofs.Q0
open Go Go.RowKit Tryz
attribute [local irreducible] XS XC XA AY AR A9 A1 A0 Aa Ae AW SE
def Rb:Cs:=CU (EY 0) (Bn (EY 0) 1 1 2 0).1 (Bn (EY 0) 1 1 2 0).2
def Ol:Cs:=CU Rb (Bn Rb 2 1 2 0).1 (Bn Rb 2 1 2 0).2
theorem sG:(Bn (EY 0) 1 1 2 0).1=0:=by kernel_rfl
theorem rL:(Bn Rb 2 1 2 0).1=0:=by kernel_rfl
theorem aAj:(A7 Ol 4).1=0:=by kernel_rfl
theorem rO:(A7 Ol 4).2.2.p=[⟨1,2,true⟩,⟨2,2,true⟩]:=by kernel_rfl
theorem aAw:(A7 Ol 4).2.2.g.length=0:=by kernel_rfl
theorem Vl (w0:World) (ht:DJ w0):AO prog 231 #[] w0 fun v w'=>v = .bool true∧AB [] w0 w':=by
 have hs:=St.nil w0;refine AS func231 ntmps231 ?_;refine Ja ?_;refine AZ hs (h:=by exact YC _ (tab_only ht (hs.AE rfl))) ?_;intro w' ho hs;refine Jc ?_;refine AG ?_;exact ⟨rfl,hs.AE rfl⟩
theorem lit_ls {w:World} {b e n k:Nat} {xs:List (List Value)} (hb:w.heap[b]?=some (.cells xs.flatten.toArray e (0,0))) (hn:xs.length=n) (hk:∀ x∈xs,x.length=k) (hl:xs.flatten.length=n*k):Cu w e k (.slice (some ⟨b,0,none⟩) n n) xs :=
 B6.ls (n:=n) (G:=[b]) (.inr ⟨b,n,xs.flatten,rfl,rfl,aC5 _,hl,hl,by rw [← hl];exact aDK,hb⟩) rfl hn.symm hk
theorem U2.ls {w:World} {v:Value} {l:List Pr} {G:List Nat} (h:U2 w v l G):Cu w 168 3 v (l.map Pr.cells):=B6.ls h rfl AA (fun x hx=>by obtain ⟨p,_,rfl⟩:=List.mem_map.1 hx;rfl)
theorem Xv (w0:World) (ht:DJ w0):AO prog 211 #[] w0 fun v w'=>v = .bool true∧AB [] w0 w':=by
 have hs:=St.nil w0;refine AS func211 ntmps211 ?_;refine Ja ?_;refine cl (h:=by exact V9 0 (by decide) _) ?_;rintro v w1 ⟨⟨cb,F0,rfl,hC,Dx⟩,AL⟩;have J0:=AL.size;have BF:=(hs.AE rfl).trans AL;have oM:∀ k∈F0,w0.heap.size≤k:=fun k hk=>by have:=Dx k hk;have:=(hs.AE rfl).size;omega
 have hcF:cb∈F0:=by obtain ⟨_,_,rfl,_⟩:=hC;simp
 have hcb:w0.heap.size≤cb:=oM cb hcF;clear hs;have hs:=St.nil w1;refine Jd ?_;refine cl (h:=by exact Qw cb (EY 0) F0 1 1 2 0 _ (hC.only (hs.AE rfl)) (by decide) (by decide) (by decide) (by decide)) ?_;rw [sG];rintro v w2 ⟨rv,rfl,IG,⟨F1,M6,Cq⟩,AN⟩;have M6:Bh w2 cb Rb F1:=by have e:=sG;unfold Rb;rw [e];exact M6
 obtain ⟨vg,vp,Gg,Gp,rfl,p1,p2⟩:=IG;obtain ⟨ag,cg,rfl⟩:=BU p1;obtain ⟨ap,cp,rfl⟩:=BU p2;have Mz:=(hs.AE rfl).size;have Bd:AB [] w0 w2:=(BF.trans (hs.AE rfl)).step AN (fun k hk => .inr (by obtain rfl:=List.mem_singleton.1 hk;exact hcb));clear hs;have hs:=St.nil w2
 repeat' (first|refine Sa ?_|(refine AV hs ?_;intro w hs)|(refine al hs ?_;intro b w hz hs)|fail)
 refine cl (h:=by exact Qw cb Rb F1 2 1 2 0 _ (M6.only (hs.AE rfl)) (by decide) (by decide) (by decide) (by decide)) ?_;rw [rL];rintro v w3 ⟨rv,rfl,IG,⟨F2,L8,D6⟩,AU⟩;have L8:Bh w3 cb Ol F2:=by have e:=rL;unfold Ol;rw [e];exact L8
 obtain ⟨vg,vp,Gg,Gp,rfl,p1,p2⟩:=IG;obtain ⟨ag,cg,rfl⟩:=BU p1;obtain ⟨ap,cp,rfl⟩:=BU p2;have Nz:=(hs.AE rfl).size;have EM:AB [] w0 w3:=(Bd.trans (hs.AE rfl)).step AU (fun k hk => .inr (by obtain rfl:=List.mem_singleton.1 hk;exact hcb));clear hs;have hs:=St.nil w3
 repeat' (first|refine Sa ?_|(refine AV hs ?_;intro w hs)|(refine al hs ?_;intro b w hz hs)|fail)
 have Tv:(A7 Ol 4).2.2.p.length < 2000000000000:=by rw [rO];decide
 have gX:(A7 Ol 4).2.2.g.length≤1000000:=by rw [aAw];decide
 refine cl (h:=by exact Xb cb Ol F2 4 _ (L8.only (hs.AE rfl)) (by decide) Tv gX) ?_;rw [aAj];rintro v w4 ⟨rv,rfl,IG,_,Ar⟩;obtain ⟨vg,vp,Gg,Gp,rfl,p1,p2⟩:=IG;obtain ⟨ag,cg,rfl⟩:=BU p1;have p3:U2 w4 vp [⟨1,2,true⟩,⟨2,2,true⟩] Gp:=by rw [← rO];exact p2
 obtain ⟨ap,cp,rfl⟩:=BU p3;have Ob:=(hs.AE rfl).size;have CG:AB [] w0 w4:=(EM.trans (hs.AE rfl)).step Ar (fun k hk => .inr (by obtain rfl:=List.mem_singleton.1 hk;exact hcb));clear hs;have hs:=St.nil w4
 repeat' (first|refine Sa ?_|(refine AV hs ?_;intro w hs)|(refine al hs ?_;intro b w hz hs)|fail)
 have EB:=CG.trans (hs.AE rfl);refine AZ hs (h:=by exact Vl _ (tab_only ht EB)) ?_;intro w' ho hs;repeat' (first|refine vs ?_|(refine bs hs ?_;intro b w hz hs)|fail)
 have nD:=lit_ls (xs:=[Pr.cells ⟨1,2,true⟩,Pr.cells ⟨2,2,true⟩]) (k:=3) (hs.get At.head) rfl (by decide) rfl;refine cl (h:=by exact u7 _ _ [⟨1,2,true⟩,⟨2,2,true⟩] [⟨1,2,true⟩,⟨2,2,true⟩] (by decide) _ ((U2.ls p3).only (hs.AE rfl)) nD) ?_;rw [show decide ([(⟨1,2,true⟩:Pr),⟨2,2,true⟩]=[⟨1,2,true⟩,⟨2,2,true⟩])=true by decide];rintro v w' ⟨rfl,ho⟩;replace hs:=hs.AP ho;refine Jc ?_;refine AG ?_;exact ⟨rfl,CG.trans (hs.AE rfl)⟩
theorem YU (w0:World) (ht:DJ w0):AO prog 174 #[] w0 fun v w'=>v = .bool true∧AB [] w0 w':=by
 have hs:=St.nil w0;refine AS func174 ntmps174 ?_;refine Ja ?_;refine AZ hs (h:=by exact Xv _ (tab_only ht (hs.AE rfl))) ?_;intro w' ho hs;refine Jc ?_;refine AG ?_;exact ⟨rfl,hs.AE rfl⟩
def PK (x u:Int):Int:=if x > max u 0 then max u 0 else if x < -(max u 0) then -(max u 0) else x
theorem gK {x u:Int} (hw:In64 u):In64 (PK x u):=by
 unfold PK In64 at *;split
 ·omega
 ·split <;> omega
theorem fF (x u:Int) (hx:Ac x) (hw:In64 u) (w0:World):AO prog 108 #[wv x,.int .i64 u] w0 fun v w'=>v = .int .i64 (PK x u)∧AB [] w0 w':=by
 have hs:=St.nil w0;refine AS func108 ntmps108 ?_
 repeat' (first|refine Sa ?_|(refine bx hs ?_;intro b w hz hs)|fail)
 have eC:PK x u=if x > max u 0 then max u 0 else if x < -(max u 0) then -(max u 0) else x:=rfl
 have hm:0≤max u 0∧max u 0 < 9223372036854775808:=by unfold In64 at hw;omega
 rw [show (if 0 > u then 0 else u)=max u 0 by split <;> omega];generalize max u 0=m at *;have m1:Ac m:=by unfold Ac;omega
 have m2:Ac (-m):=by unfold Ac;omega
 have c1:C1 x m > 0↔m < x:=uW;have c2:C1 x (-m) < 0↔x < -m:=uP;refine dr [] hs ?_;intro hX w hs;refine tks 0 2 ?_;refine dt 2 hX ?_;refine AZ hs (h:=by exact Fp m om om _) ?_;intro w' ho hs;refine Jn ?_;refine dt 3 hX ?_;refine AZ hs (h:=by exact TL x m hx m1 _) ?_;intro w' ho hs;refine Jn ?_;refine tks 4 2 ?_;refine en ?_;by_cases h:m < x
 ·rw [if_pos h] at eC;rw [decide_eq_true (c1.2 h),eC];refine Je ?_;refine AG ?_;exact ⟨rfl,hs.AE rfl⟩
 rw [if_neg h] at eC;rw [decide_eq_false (fun k=>h (c1.1 k))];refine Jg ?_;have em:IntKind.i64.wrap (0 - m)=-m:=by rw [wrap_i64];omega
 refine dr [] hs ?_;intro hX w hs;refine tks 0 3 ?_;refine dt 3 hX ?_;refine cl (h:=by exact Fp (IntKind.i64.wrap (0 - m)) (by rw [em];omega) (by rw [em];omega) _) (k:=?_);rw [em];rintro v w' ⟨rfl,ho⟩;replace hs:=hs.AP ho;refine Jn ?_;refine dt 4 hX ?_;refine AZ hs (h:=by exact TL x (-m) hx m2 _) ?_;intro w' ho hs;refine Jn ?_;refine tks 5 2 ?_;refine en ?_;by_cases h2:x < -m
 ·rw [if_pos h2] at eC;rw [decide_eq_true (c2.2 h2),eC];refine Je ?_;refine AG ?_;exact ⟨N5 em,hs.AE rfl⟩
 rw [if_neg h2] at eC;rw [decide_eq_false (fun k=>h2 (c2.1 k)),eC];refine Jd ?_;refine AZ hs (h:=by exact Vk x hx (by unfold In64;omega) _) (k:=?_);intro w' ho hs;refine Ja ?_;refine AG ?_;exact ⟨rfl,hs.AE rfl⟩
structure Cf where
 cores:Int
 tasks:Int
 tick:Int
 slice:Int
 origin:Int
def Q2 (c:Cf):Value := .agg #[.int .i64 c.cores,.int .i64 c.tasks,.int .u64 c.tick,.int .u64 c.slice,.int .u64 c.origin]
def Cf.In (c:Cf):Prop:=In64 c.cores∧In64 c.tasks∧BY c.tick∧BY c.slice∧BY c.origin
def BC (n e:Int):Int:=if n < 1∨n > e then 3 else 0
theorem FX (n e:Int) (w0:World):AO prog 62 #[.int .u64 n,.int .u64 e] w0 fun v w'=>v = .int .i64 (BC n e)∧AB [] w0 w':=by
 have hs:=St.nil w0;refine AS func62 ntmps62 ?_;refine Jb ?_;refine Aq ?_;refine vs ?_;refine Jb ?_;refine Aq ?_;refine vs ?_;refine vs ?_;unfold BC;by_cases c1:n < 1
 ·rw [decide_eq_true c1,if_pos (.inl c1)];refine Jh ?_;refine AG ?_;exact ⟨rfl,hs.AE rfl⟩
 rw [decide_eq_false c1];refine vs ?_;refine vs ?_;refine vs ?_;refine vs ?_;by_cases c2:n > e
 ·rw [decide_eq_true c2,if_pos (.inr c2)];refine Je ?_;refine AG ?_;exact ⟨rfl,hs.AE rfl⟩
 rw [decide_eq_false c2,if_neg om];refine Jd ?_;refine AG ?_;exact ⟨rfl,hs.AE rfl⟩
def wR (e:Int):List Value:=[.int .i64 e]
def F8:List Int→Int
 | []=>0
 | e :: l=>if e≠0 then e else F8 l
theorem iC {l:List Int} {i:Nat} (h:i < l.length):F8 (l.drop i)=if l[i]≠0 then l[i] else F8 (l.drop (i+1)):=by rw [aD0 h];rfl
theorem ZG (l:List Int) (sl:Value) (hm:l.length≤9223372036854775807) (w0:World) (hL:Sj w0 1 sl (l.map wR)):AO prog 52 #[sl] w0 fun v w'=>v = .int .i64 (F8 l)∧AB [] w0 w':=by
 obtain ⟨ad,cap,rfl,hD⟩:=hL;rw [aC0] at *;have hs:=St.nil w0;refine AS func52 ntmps52 ?_;refine Ja ?_;refine BM (fun (_:Unit)=>[]) (fun _ w=>F8 l=0∧AB [] w0 w) ?_ ?_
 ·refine BH (fun (i:Nat)=>[(5,.slice ad l.length cap),(6,.int .i64 (l.length:Nat)),(7,.int .i64 (i:Nat))]) (fun i w=>i≤l.length∧F8 (l.drop i)=F8 l∧AB [] w0 w) (fun i=>l.length - i) 0 Ad ⟨aC7 _,by rw [List.drop_zero],hs.AE rfl⟩ fun i env wl ⟨hi,he,BP⟩=>?_;clear hs;have hs:=St.nil wl
  repeat' (first|refine Sa ?_|refine Aw rfl (fun hc=>?_) fun hc=>?_|fail)
  ·have hlt:i < l.length:=by omega
   obtain ⟨b,off,cs,E,fz,rfl,hb,hcs⟩:=hD (fun h=>by have:=congrArg List.length h;rw [aC0,aDA] at this;omega);have hpk:=hcs i (wR l[i]) (by rw [aC8,aC3 hlt];rfl);have ei:=DP (m:=l.length) hlt hm;rw [iC hlt] at he;generalize l[i]=q at *;refine ix (h0:=(by omega)) (h1:=(by omega)) ?_;refine lh (BP.block hb AA) (by cases hpk;assumption) (k:=?_);by_cases hq:q=0
   ·subst hq;rw [if_neg AA] at he;refine Jd ?_;exact A2 (i+1) (by show l.length - (i+1) < l.length - i;omega) (by (repeat (first | exact Ag | (apply A8;first | exact rfl | exact congrArg (Value.int .i64) ei)))) ⟨by show i+1≤_;omega,he,BP.trans (hs.AE rfl)⟩
   ·rw [if_pos hq] at he
    repeat' (first|refine Sa ?_|refine xc_cond rfl (fun hc=>?_) fun hc=>?_|fail)
    ·refine AG ?_;exact ⟨by rw [← he];rfl,BP.trans (hs.AE rfl)⟩
    ·exact absurd (by simpa using hc) hq
  ·have e:i=l.length:=by omega
   subst e;rw [List.drop_length] at he;exact Au () Ad ⟨he.symm,BP⟩
 ·rintro _ env w ⟨he,BP⟩;clear hs;have hs:=St.nil w;refine Ja ?_;refine AG ?_;exact ⟨by rw [he];rfl,BP.trans (hs.AE rfl)⟩
def CS (c:Cf) (k:Int):Int:=if k < 0∨k≥c.cores then 5 else 0
theorem Lw (c:Cf) (k:Int) (w0:World):AO prog 41 #[Q2 c,.int .i64 k] w0 fun v w'=>v = .int .i64 (CS c k)∧AB [] w0 w':=by
 have hs:=St.nil w0;refine AS func41 ntmps41 ?_;refine Jb ?_;refine Aq ?_;refine bx hs ?_;intro b w hz hs;refine vs ?_;refine Jb ?_;refine Aq ?_;refine vs ?_;refine vs ?_;unfold CS;by_cases c1:k < 0
 ·rw [decide_eq_true c1,if_pos (.inl c1)];refine Jh ?_;refine AG ?_;exact ⟨rfl,hs.AE rfl⟩
 rw [decide_eq_false c1];refine vs ?_;refine vs ?_;refine vs ?_;refine vs ?_;refine vs ?_;by_cases c2:c.cores≤k
 ·rw [decide_eq_true c2,if_pos (.inr c2)];refine Je ?_;refine AG ?_;exact ⟨rfl,hs.AE rfl⟩
 rw [decide_eq_false c2,if_neg om];refine Jd ?_;refine AG ?_;exact ⟨rfl,hs.AE rfl⟩
def D7 (n:Int):Int:=if 1099511627776 < n then 1099511627776 else n
theorem Ow (c:Cf) (n:Int) (w0:World):AO prog 54 #[Q2 c,.int .u64 n] w0 fun v w'=>v = .int .i64 (BC n (D7 c.slice))∧AB [] w0 w':=by
 have hs:=St.nil w0;refine AS func54 ntmps54 ?_
 repeat' (first|refine Sa ?_|(refine bx hs ?_;intro b w hz hs)|fail)
 refine AZ hs (h:=by exact FX n (D7 c.slice) _) ?_;intro w' ho hs;refine Jc ?_;refine AG ?_;exact ⟨rfl,hs.AE rfl⟩
theorem lP (c:Cf) (n:Int) (w0:World):AO prog 58 #[Q2 c,.int .u64 n] w0 fun v w'=>v = .int .i64 (BC n (D7 c.tick))∧AB [] w0 w':=by
 have hs:=St.nil w0;refine AS func58 ntmps58 ?_
 repeat' (first|refine Sa ?_|(refine bx hs ?_;intro b w hz hs)|fail)
 refine AZ hs (h:=by exact FX n (D7 c.tick) _) ?_;intro w' ho hs;refine Jc ?_;refine AG ?_;exact ⟨rfl,hs.AE rfl⟩
theorem Oq (c:Cf) (n:Int) (w0:World):AO prog 53 #[Q2 c,.int .u64 n] w0 fun v w'=>v = .int .i64 (BC n 1048576)∧AB [] w0 w':=by
 have hs:=St.nil w0;refine AS func53 ntmps53 ?_
 repeat' (first|refine Sa ?_|(refine bx hs ?_;intro b w hz hs)|fail)
 refine AZ hs (h:=by exact FX n 1048576 _) ?_;intro w' ho hs;refine Jc ?_;refine AG ?_;exact ⟨rfl,hs.AE rfl⟩
def GK (c:Cf) (x s:Int):Int:=PK x ((K3 s c.tick).getD 0)
theorem Yy (s t:Int):In64 ((K3 s t).getD 0):=by
 unfold K3;split
 ·show In64 ((2*s+t)*1048576);unfold In64;omega
 ·decide
theorem RJ (c:Cf) (x s:Int) (hc:c.In) (hx:Ac x) (hs0:BY s) (w0:World):AO prog 70 #[Q2 c,wv x,.int .u64 s] w0 fun v w'=>v = .int .i64 (GK c x s)∧AB [] w0 w':=by
 have hs:=St.nil w0;refine AS func70 ntmps70 ?_
 repeat' (first|refine Sa ?_|(refine bx hs ?_;intro b w hz hs)|fail)
 refine AZ hs (h:=by exact SM s c.tick hs0 hc.2.2.1 _) ?_;intro w' ho hs;refine Ja ?_;refine AZ hs (h:=by exact fF x ((K3 s c.tick).getD 0) hx (Yy _ _) _) ?_;intro w' ho hs;refine Jc ?_;refine AG ?_;exact ⟨rfl,hs.AE rfl⟩
def FH (c:Cf):Int:=if c.cores < 1∨c.tasks < 1 then 3 else F8 [BC c.cores 8,BC c.tasks 32,BC c.tick 1099511627776,BC c.slice 1099511627776]
theorem Ul (c:Cf) (hc0:c.In) (w0:World):AO prog 29 #[Q2 c] w0 fun v w'=>v = .int .i64 (FH c)∧AB [] w0 w':=by
 obtain ⟨i1,i2,i3,i4,i5⟩:=hc0;unfold In64 at i1 i2;have hs:=St.nil w0;refine AS func29 ntmps29 ?_;refine Jb ?_;refine Aq ?_;refine bx hs ?_;intro b w hz hs;refine vs ?_;refine Jb ?_;refine Aq ?_;refine vs ?_;refine vs ?_;refine vs ?_;unfold FH;by_cases c1:c.cores < 1
 ·rw [decide_eq_true c1,if_pos (.inl c1)];refine Jh ?_;refine AG ?_;exact ⟨rfl,hs.AE rfl⟩
 rw [decide_eq_false c1];refine vs ?_;refine vs ?_;refine vs ?_;refine vs ?_;by_cases c2:c.tasks < 1
 ·rw [decide_eq_true c2,if_pos (.inr c2)];refine Je ?_;refine AG ?_;exact ⟨rfl,hs.AE rfl⟩
 rw [decide_eq_false c2,if_neg om];refine Jl ?_;have e1:IntKind.u64.wrap c.cores=c.cores:=by rw [wrap_u64];omega
 have e2:IntKind.u64.wrap c.tasks=c.tasks:=by rw [wrap_u64];omega
 refine dr [] hs ?_;intro hX w hs;refine tks 0 3 ?_;refine tks 4 3 ?_;refine tks 8 2 ?_;refine tks 11 2 ?_;refine dt 3 hX ?_;refine cl (h:=by exact FX (IntKind.u64.wrap c.cores) 8 _) ?_;rw [e1];rintro v w' ⟨rfl,ho⟩;replace hs:=hs.AP ho;refine Jn ?_;refine dt 7 hX ?_;refine cl (h:=by exact FX (IntKind.u64.wrap c.tasks) 32 _) ?_;rw [e2];rintro v w' ⟨rfl,ho⟩;replace hs:=hs.AP ho;refine Jn ?_;refine dt 10 hX ?_;refine AZ hs (h:=by exact FX c.tick 1099511627776 _) ?_;intro w' ho hs;refine Jn ?_;refine dt 13 hX ?_;refine AZ hs (h:=by exact FX c.slice 1099511627776 _) ?_;intro w' ho hs;refine Jn ?_;refine dt 14 hX ?_
 repeat' (first|refine Nx.h ?_|(refine bs hs ?_;intro b w hz hs)|fail)
 refine dn ?_;refine dt 15 hX ?_;refine AZ hs (h:=by exact ZG [BC c.cores 8,BC c.tasks 32,BC c.tick 1099511627776,BC c.slice 1099511627776] _ AA _ (lit_ls (n:=4) (hs.get At.head) rfl (fun x hx=>by obtain ⟨e,_,rfl⟩:=List.mem_map.1 hx;rfl) rfl).x) (k:=?_);intro w' ho hs;refine Jn ?_;refine tk 16 hX ?_;refine en ?_;refine Jb ?_;refine AG ?_;exact ⟨rfl,hs.AE rfl⟩
theorem Yj (w0:World) (ht:DJ w0):AO prog 135 #[] w0 fun v w'=>v = .bool true∧AB [] w0 w':=by
 have hs:=St.nil w0;refine AS func135 ntmps135 ?_
 repeat' (first|refine Sa ?_|(refine AV hs ?_;intro w hs)|(refine al hs ?_;intro b w hz hs)|fail)
 refine AZ hs (h:=by exact YU _ (tab_only ht (hs.AE rfl))) ?_;intro w' ho hs;refine Jf ?_;refine cl (h:=by exact Ul ⟨2,3,4,5,0⟩ (by unfold Cf.In;decide) _) (k:=?_);rw [show FH ⟨2,3,4,5,0⟩=0 by decide];rintro v w' ⟨rfl,ho⟩;replace hs:=hs.AP ho;refine Jf ?_;refine cl (h:=by exact Lw ⟨2,3,4,5,0⟩ 2 _) ?_;rw [show CS ⟨2,3,4,5,0⟩ 2=5 by decide];rintro v w' ⟨rfl,ho⟩;replace hs:=hs.AP ho;refine Jf ?_;refine cl (h:=by exact Lw ⟨2,3,4,5,0⟩ 1 _) ?_;rw [show CS ⟨2,3,4,5,0⟩ 1=0 by decide];rintro v w' ⟨rfl,ho⟩;replace hs:=hs.AP ho;refine Jc ?_;refine AG ?_;exact ⟨rfl,hs.AE rfl⟩
theorem YE (w0:World) (ht:DJ w0):AO prog 97 #[] w0 fun v w'=>v = .bool true∧AB [] w0 w':=by
 have hs:=St.nil w0;refine AS func97 ntmps97 ?_;refine Ja ?_;refine AZ hs (h:=by exact Yj _ (tab_only ht (hs.AE rfl))) ?_;intro w' ho hs;refine Jc ?_;refine AG ?_;exact ⟨rfl,hs.AE rfl⟩
theorem jC (zs:List Value) (k:Nat) (hk:zs.length=k) (h0:0 < k):∀ m:Nat,madeCells zs.toArray (m*k)=((List.replicate m zs).flatten).toArray:=by
 have H:∀ m:Nat,(List.range (m*k)).map (fun i=>zs.toArray[i % zs.toArray.size]!)=(List.replicate m zs).flatten:=fun m=>by
  induction m with
  | zero=>simp
  | succ m ih =>
    rw [aDH,Nat.one_mul,List.range_add,aDa,ih,List.replicate_succ',List.flatten_append,List.flatten_singleton,List.map_map];congr 1;apply List.ext_getElem
    ·simp [hk]
    ·intro i h1 h2;simp only [aC0,List.length_range] at h1;simp only [List.getElem_map,List.getElem_range,Function.comp,List.size_toArray,hk];rw [show (m*k+i) % k=i by rw [Nat.mul_comm,Nat.mul_add_mod,Nat.mod_eq_of_lt h1]];simp [h2]
 intro m;apply Array.toList_inj.1;rw [← H m];simp [madeCells]
section
variable {P : Program} {ops : Array Oper} {QE : Exit → Env → World → Prop} {n : Nat} {rest : List Oper} {env : Env} {w wb : World} {D : Ctx} {H : List Br} {T : MC}
 {d:Option Nat} {ty:Nat} {pos:String} {Am:Array Edge} {g:Option (Nat × Bool)}
theorem pK (hT:Be P T) {t e size bytes m:Nat} {zs:List Value} {x y:Operand} {kl kc:IntKind} (hw:Ax ops env g=true) (Co:look t T.sls=some (e,size,bytes)) (hz:look e T.zs=some zs) (hzl:Nat.beq zs.length size=true) (h0:Nat.ble 1 size=true)
 (hx:ev env x = .int kl (m:Nat)) (hy:ev env y = .int kc (m:Nat)) (hb:bytes*m≤281474976710656) (hm:m≤9223372036854775807) (hs:St wb D H w)
 (k:∀ b w',w'.heap.size=w.heap.size+1→St wb D ((b,.cells ((List.replicate m zs).flatten).toArray e,true) :: H) w'→XS P ops QE n rest (Bf env d (.slice (some ⟨b,0,none⟩) m m)) w') :
 XS P ops QE n (⟨d,.makeSlice t x y,ty,pos,Am,g⟩ :: rest) env w:=by
 obtain ⟨hu,i,hi,hs1,hs2⟩:=GL (hT.sl Co);obtain ⟨i',z,hi',PT,JJ⟩:=Pc (hT.z hz);rw [hi] at hi';cases hi';have hr:=run_make (P:=P) w t e i z hu hi PT kl kc (m:Nat) (m:Nat) om (Int.le_refl _) (by rw [hs2,← Int.natCast_mul];omega) om;rw [hs1,JJ,Int.toNat_natCast,jC zs size (aDT hzl) (aDu h0)] at hr;refine XS.value hw (v := .slice (some ⟨w.heap.size,0,none⟩) m m) (w':=w.alloc (.cells ((List.replicate m zs).flatten).toArray e)) ?_ (k w.heap.size _ AA (hs.alloc _));simp [execOp,hx,hy,aCz,hr]
end
structure Tk where
 id:Int
 st:Int
 core:Int
 w:Int
 slice:Int
 lag:Int
deriving DecidableEq
abbrev Tk.cells (x:Tk):List Value:=[.int .i64 x.id,.int .u8 x.st,.int .i64 x.core,.int .u32 x.w,.int .u64 x.slice,.int .i64 x.lag]
def KM (x:Tk):Value := .agg #[.int .i64 x.id,.int .u8 x.st,.int .i64 x.core,.int .u32 x.w,.int .u64 x.slice,.int .i64 x.lag]
def Tk.zero:Tk:=⟨0,0,0,0,0,0⟩
def CR (l:List Tk):List Value:=(l.map Tk.cells).flatten
abbrev aBO (rb n cap:Nat):Obj := .cells #[.slice (some ⟨rb,0,none⟩) n cap] 97 (0,0)
abbrev Lr (l:List Tk) (rest:List Value):Obj := .cells (CR l ++ rest).toArray 51 (0,0)
def DW (w:World) (tb rb:Nat) (l:List Tk):Prop:=∃ cap rest,w.heap[tb]?=some (aBO rb l.length cap)∧w.heap[rb]?=some (Lr l rest)∧l.length≤32∧l.length≤cap∧rest.length+l.length*6=cap*6
theorem DW.keep {w w':World} {tb rb:Nat} {l:List Tk} {F:List Nat} (h:DW w tb rb l) (ho:AB F w w') (h1:tb∉F) (h2:rb∉F):DW w' tb rb l:=by
 obtain ⟨cap,rest,a,b,c⟩:=h;exact ⟨cap,rest,ho.block a h1,ho.block b h2,c⟩
theorem DW.only {w w':World} {tb rb:Nat} {l:List Tk} (h:DW w tb rb l) (ho:AB [] w w'):DW w' tb rb l:=h.keep ho AA AA
theorem pI {cs more vs:List Value} {off n:Nat} (h:Dk cs off n vs):Dk (cs ++ more) off n vs:=by
 induction h with
 | nil=>exact .nil
 | @cons off m v vs h1 _ ih =>
   have hl:off < cs.length:=by
    rcases aDL off cs.length with h | h
    ·exact h
    ·rw [aDY h] at h1;cases h1
   exact .cons (by rw [List.getElem?_append_left hl];exact h1) ih
theorem Kl {l:List Tk} {rest:List Value} {i:Nat} (h:i < l.length):Dk (CR l ++ rest) (i*6) 6 l[i].cells:=by
 refine pI (pick_of rfl ?_);unfold CR;exact Rf (fun y hy=>by obtain ⟨x,_,rfl⟩:=List.mem_map.1 hy;rfl) (by rw [aC8,aC3 h];rfl)
def Ey (n:Int):Nat:=(max 0 (min n 32)).toNat
theorem VO (n:Int) (w0:World):AO prog 30 #[.int .i64 n] w0 fun v w'=>(∃ tb rb,v = .pointer (some ⟨tb,0,none⟩)∧DW w' tb rb (List.replicate (Ey n) .zero)∧w0.heap.size≤tb∧w0.heap.size≤rb∧tb≠rb)∧AB [] w0 w':=by
 have hs:=St.nil w0;refine AS func30 ntmps30 ?_;refine Ja ?_;have hle:Ey n≤32:=by unfold Ey;omega
 rw [show (if (if (32:Int) < n then 32 else n) > 0 then (if (32:Int) < n then 32 else n) else 0)=((Ey n:Nat):Int) by unfold Ey;split <;> split <;> omega];generalize Ey n=m at *;refine pK AJ (m:=m) rfl rfl rfl rfl rfl rfl rfl om om hs (k:=?_);intro rb w1 J0 hs;have g1:=hs.new _ aCw rfl;simp only at g1;refine vs ?_;refine bx hs ?_;intro tb w2 Mz hs;have g2:=hs.new _ aCw rfl;simp only at g2;have hnd:=hs.nd;simp only [aC2,aC6,aCu,aDD,aC1,or_false] at hnd;refine Jc ?_;refine AG ?_;refine ⟨⟨tb,rb,rfl,⟨m,[],?_,?_,by rw [aD7];exact hle,by rw [aD7];exact ⟨aC5 _,by simp⟩⟩,g2,g1,hnd.1⟩,hs.AE rfl⟩
 ·rw [aD7];exact hs.get At.head
 ·have:=hs.get (At.tail At.head);rw [this];unfold Lr CR;rw [List.map_replicate,aDP];rfl
theorem SL (x:Tk) (w0:World):AO prog 90 #[KM x] w0 fun v w'=>v = .bool (decide (1≤x.st) && decide (x.st≤3))∧AB [] w0 w':=by
 have hs:=St.nil w0;refine AS func90 ntmps90 ?_
 repeat' (first|refine Sf ?_|(refine bx hs ?_;intro b w hz hs)|((with_reducible apply BV);exact rfl;exact rfl;intro c hc;(fail_if_success have:true=c:=hc);(fail_if_success have:false=c:=hc);cases c)|fail)
 all_goals (refine AG ?_)
 all_goals refine ⟨?_,hs.AE rfl⟩
 all_goals clear hs
 ·have h1:decide (1≤x.st)=false:=hc;rw [h1];rfl
 ·have h1:decide (1≤x.st)=true:=hc;rw [h1];rfl
def BK (l:List Tk) (id:Int):Option Nat:=if 1≤id∧id≤l.length∧(l.getD (id - 1).toNat .zero).st≠0 then some (id - 1).toNat else none
theorem I2 {l:List Tk} {id:Int} {i:Nat} (h:BK l id=some i):i < l.length∧id=(i:Int)+1:=by
 unfold BK at h;split at h
 ·cases h;omega
 ·cases h
def cQ (o:Option Nat):Int:=match o with | some i=>(i:Int) | none=>0
def Df (o:Option Nat):Int:=match o with | some _=>0 | none=>4
theorem PI (tb rb:Nat) (l:List Tk) (id:Int) (w0:World) (h:DW w0 tb rb l) (hid:In64 id):AO prog 38 #[.pointer (some ⟨tb,0,none⟩),.int .i64 id] w0 fun v w'=>v = .tuple #[.int .i64 (cQ (BK l id)),.int .i64 (Df (BK l id))]∧AB [] w0 w':=by
 obtain ⟨cap,rest,h1,h2,h3,h4⟩:=h;have hs:=((St.nil w0).AF h1).AF h2;refine AS func38 ntmps38 ?_;refine Jb ?_;refine Aq ?_;refine vs ?_;refine vs ?_;refine Jb ?_;refine Aq ?_;refine vs ?_;refine vs ?_;refine vs ?_;refine Jg ?_;refine Aq ?_;refine vs ?_;refine vs ?_;by_cases c1:id < 1
 ·have e:BK l id=none:=if_neg om;rw [decide_eq_true c1,e];refine Jh ?_;refine AG ?_;exact ⟨rfl,hs.AD [] (by simp [h1,h2]) sD⟩
 rw [decide_eq_false c1]
 iterate 8 refine vs ?_
 by_cases c2:id > (l.length:Nat)
 ·have e:BK l id=none:=if_neg om;rw [decide_eq_true c2,e];refine Jh ?_;refine AG ?_;exact ⟨rfl,hs.AD [] (by simp [h1,h2]) sD⟩
 rw [decide_eq_false c2];obtain ⟨i,rfl⟩:∃ i:Nat,id=(i:Int)+1:=⟨(id - 1).toNat,by omega⟩;have hi:i < l.length:=by omega
 have ew:IntKind.i64.wrap ((i:Int)+1 - 1)=(i:Int):=by rw [wrap_i64];omega
 have ei:((i:Int)+1 - 1).toNat=i:=by omega
 have hpk:=Kl (rest:=rest) hi
 have eF:BK l ((i:Int)+1)=if l[i].st≠0 then some i else none:=by
  unfold BK;rw [ei,aDI,aC3 hi];by_cases hq:l[i].st=0
  ·rw [if_neg (by simp [hq]),if_neg (by simp [hq])]
  ·rw [if_pos ⟨by omega,by omega,by simpa using hq⟩,if_pos hq]
 generalize l[i]=q at *
 iterate 8 refine vs ?_
 rw [ew];refine ix (h0:=(by omega)) (h1:=(by omega)) ?_;refine vs ?_;refine lh (v := .int .u8 q.st) (hs.get At.head) ?_ ?_
 ·cases hpk with | cons a t=>cases t with | cons a2 _=>simpa using a2
 refine vs ?_;by_cases hq:q.st=0
 ·rw [if_neg (by simp [hq])] at eF;rw [eF,hq];refine Je ?_;refine AG ?_;exact ⟨rfl,hs.AD [] (by simp [h1,h2]) sD⟩
 ·rw [if_pos hq] at eF;rw [eF,show (q.st == 0)=false by simpa using hq];refine Jd ?_;refine AG ?_;refine ⟨?_,hs.AD [] (by simp [h1,h2]) sD⟩;show Value.tuple _=Value.tuple _;rw [ew];rfl
def Ay (l:List Tk) (id:Int):Tk:=match BK l id with | some i=>l.getD i .zero | none => .zero
theorem OM (tb rb:Nat) (l:List Tk) (id:Int) (w0:World) (h:DW w0 tb rb l) (hid:In64 id):AO prog 13 #[.pointer (some ⟨tb,0,none⟩),.int .i64 id] w0 fun v w'=>v = .tuple #[KM (Ay l id),.int .i64 (Df (BK l id))]∧AB [] w0 w':=by
 have hT:=h;obtain ⟨cap,rest,h1,h2,h3,h4⟩:=h;have hs:=((St.nil w0).AF h1).AF h2;refine AS func13 ntmps13 ?_;refine Ah ?_;refine Aq ?_;refine al hs ?_;intro b4 w hz hs;refine Ja ?_;refine cl (h:=by exact PI tb rb l id _ (hT.only (hs.AD [] (by simp [h1,h2]) sD)) hid) ?_;unfold Ay;cases e:BK l id with
 | none =>
   rintro v w' ⟨rfl,ho⟩;replace hs:=hs.AP ho;repeat' (first|refine Sc ?_|(refine AV hs ?_;intro w hs)|fail)
   refine AG ?_;exact ⟨rfl,hs.AD [] (by simp [h1,h2]) sD⟩
 | some i =>
   obtain ⟨hi,_⟩:=I2 e;have hpk:=Kl (rest:=rest) hi;have eG:l.getD i .zero=l[i]:=by rw [aDI,aC3 hi];rfl
   simp only;rw [eG];generalize l[i]=q at *;rintro v w' ⟨rfl,ho⟩;replace hs:=hs.AP ho;refine Jd ?_;refine ix (h0:=(by show (0:Int)≤(i:Int);omega)) (h1:=(by show (i:Int) < _;omega)) (k:=?_);refine Ia (vs:=q.cells) (hs.get (b:=rb) (o:=Lr l rest) AX) ?_ ?_
   ·simpa [cQ] using hpk
   repeat' (first|refine Sb ?_|(refine AV hs ?_;intro w hs)|fail)
   refine AG ?_;exact ⟨rfl,hs.AD [] (by simp [h1,h2]) sD⟩
theorem IF (x:Tk) (l:List Tk):CR (x :: l)=x.cells ++ CR l:=by simp [CR]
theorem Pf (y:Tk) {rest:List Value}:∀ {l:List Tk} {i:Nat},i < l.length→Ak (CR l ++ rest) (i*6) y.cells (CR (l.set i y) ++ rest)
 | [],i,h=>absurd h (Nat.not_lt_zero _)
 | x :: l,0,_=>by
   rw [IF,List.set_cons_zero,IF,aDQ,aDQ];exact .cons (.cons (.cons (.cons (.cons (.cons .nil)))))
 | x :: l,i+1,h=>by
   have ih:=Pf y (rest:=rest) (l:=l) (i:=i) (Nat.lt_of_succ_lt_succ h);rw [IF,List.set_cons_succ,IF,aDQ,aDQ,show (i+1)*6=i*6+1+1+1+1+1+1 by omega];exact .skip (.skip (.skip (.skip (.skip (.skip ih)))))
def FJ (l:List Tk) (id:Int):List Tk:=match BK l id with | some i=>l.set i .zero | none=>l
theorem Ua (tb rb:Nat) (l:List Tk) (id:Int) (w0:World) (h:DW w0 tb rb l) (hid:In64 id):AO prog 67 #[.pointer (some ⟨tb,0,none⟩),.int .i64 id] w0 fun v w'=>v = .int .i64 (Df (BK l id))∧DW w' tb rb (FJ l id)∧AB [rb] w0 w':=by
 have hT:=h;obtain ⟨cap,rest,h1,h2,h3,h4⟩:=h;have hs:=((St.nil w0).AF h1).AF h2;refine AS func67 ntmps67 ?_;refine Ja ?_;refine cl (h:=by exact PI tb rb l id _ (hT.only (hs.AD [] (by simp [h1,h2]) sD)) hid) ?_;unfold FJ;cases e:BK l id with
 | none =>
   rintro v w' ⟨rfl,ho⟩;replace hs:=hs.AP ho;refine Jd ?_;refine AG ?_;have ho:=hs.AD [] (by simp [h1,h2]) sD;exact ⟨rfl,hT.only ho,ho.weaken AA⟩
 | some i =>
   obtain ⟨hi,_⟩:=I2 e;have hpt:=Pf .zero (rest:=rest) hi;rintro v w' ⟨rfl,ho⟩;replace hs:=hs.AP ho;refine Je ?_;refine ix (h0:=(by show (0:Int)≤(i:Int);omega)) (h1:=(by show (i:Int) < _;omega)) (k:=?_);refine AV hs (cs:=CR l ++ rest) (vs:=Tk.zero.cells) (cs':=CR (l.set i .zero) ++ rest) (hc:=?_) ?_;rotate_left
   ·simpa [cQ] using hpt
   intro w hs;refine Ja ?_;refine AG ?_;have ho:=hs.AD [rb] (by simp [h1]) sD;refine ⟨rfl,⟨cap,rest,?_,hs.get At.head,by rw [aDN];exact h3,by rw [aDN];exact h4⟩,ho⟩;rw [aDN];exact hs.get (At.tail At.head)
def Ba (x:Tk):Bool:=decide (1≤x.st) && decide (x.st≤3)
def zQ (l:List Tk) (x:Tk):Int:=bif Ba x then Df (BK l x.id) else 2
def ES (l:List Tk) (x:Tk):List Tk:=bif Ba x then (match BK l x.id with | some i=>l.set i x | none=>l) else l
theorem FV (tb rb:Nat) (l:List Tk) (x:Tk) (w0:World) (h:DW w0 tb rb l) (hid:In64 x.id):AO prog 71 #[.pointer (some ⟨tb,0,none⟩),KM x] w0 fun v w'=>v = .int .i64 (zQ l x)∧DW w' tb rb (ES l x)∧AB [rb] w0 w':=by
 have hT:=h;obtain ⟨cap,rest,h1,h2,h3,h4⟩:=h;have hs:=((St.nil w0).AF h1).AF h2;have lb1:=lt_of_block h1;have lb2:=lt_of_block h2;refine AS func71 ntmps71 ?_
 repeat' (first|refine Sd ?_|(refine bx hs ?_;intro b w hz hs)|fail)
 refine cl (h:=by exact SL x _) ?_;rw [show (decide (1≤x.st) && decide (x.st≤3))=Ba x from rfl];unfold zQ ES;cases hr:Ba x with
 | false =>
   rintro v w' ⟨rfl,ho⟩;replace hs:=hs.AP ho;refine Je ?_;refine AG ?_;have ho:=hs.AD [] (by simp [h1,h2]) sD;exact ⟨rfl,hT.only ho,ho.weaken AA⟩
 | true =>
   rintro v w' ⟨rfl,ho⟩;replace hs:=hs.AP ho;refine Jd ?_;refine cl (h:=by exact PI tb rb l x.id _ (hT.only (hs.AD [] (by simp [h1,h2]) sD)) hid) ?_;simp only [cond_true];cases e:BK l x.id with
   | none =>
     rintro v w' ⟨rfl,ho⟩;replace hs:=hs.AP ho;refine Jd ?_;refine AG ?_;have ho:=hs.AD [] (by simp [h1,h2]) sD;exact ⟨rfl,hT.only ho,ho.weaken AA⟩
   | some i =>
     obtain ⟨hi,_⟩:=I2 e;have hpt:=Pf x (rest:=rest) hi;rintro v w' ⟨rfl,ho⟩;replace hs:=hs.AP ho;refine Je ?_;refine dr [7] hs ?_;intro hX w hs;refine tks 0 6 ?_;refine tk 6 hX (hr:=fun w' hH=>BA AJ rfl rfl rfl (by show (0:Int)≤(i:Int);omega) (by show (i:Int) < _;omega)) (k:=?_);refine dt 7 hX ?_;refine AV hs (cs:=CR l ++ rest) (vs:=x.cells) (cs':=CR (l.set i x) ++ rest) (hc:=?_) ?_;rotate_left
     ·simpa [cQ] using hpt
     intro w hs;refine Jn ?_;refine en ?_;refine Ja ?_;refine AG ?_;have ho:=hs.AD [rb] (by simp [h1]) sD;refine ⟨rfl,⟨cap,rest,?_,hs.get (b:=rb) AX,by rw [aDN];exact h3,by rw [aDN];exact h4⟩,ho⟩;rw [aDN];exact hs.get (b:=tb) AX
def Dc:List Tk→Option Nat
 | []=>none
 | x :: l=>if x.st=0 then some 0 else (Dc l).map (·+1)
theorem cT {l:List Tk} {i:Nat} (h:i < l.length):Dc (l.drop i)=if l[i].st=0 then some 0 else (Dc (l.drop (i+1))).map (·+1):=by rw [aD0 h];rfl
theorem LN:∀ {l:List Tk} {i:Nat},Dc l=some i→i < l.length
 | [],i,h=>by cases h
 | x :: l,i,h=>by
   unfold Dc at h;split at h
   ·cases h;simp
   ·cases e:Dc l with
    | none=>rw [e] at h;cases h
    | some j=>rw [e] at h;cases h;have:=LN e;simp;omega
theorem pY (x:Tk) (w0:World):AO prog 92 #[KM x] w0 fun v w'=>v = .bool (x.st == 0)∧AB [] w0 w':=by
 have hs:=St.nil w0;refine AS func92 ntmps92 ?_
 repeat' (first|refine Sa ?_|(refine bx hs ?_;intro b w hz hs)|fail)
 refine AG ?_;exact ⟨rfl,hs.AE rfl⟩
def oH (o:Option Nat):Int:=match o with | some i=>(i:Int) | none=>-1
theorem dU (rb cap:Nat) (l:List Tk) (rest:List Value) (w0:World) (hm:l.length≤32) (h:w0.heap[rb]?=some (Lr l rest)):AO prog 91 #[.slice (some ⟨rb,0,none⟩) l.length cap,.func (.func 92) #[] #[]] w0 fun v w'=>v = .int .i64 (oH (Dc l))∧AB [] w0 w':=by
 have hs:=St.nil w0;refine AS func91 ntmps91 ?_;refine Ja ?_;refine BM (fun (_:Unit)=>[]) (fun _ w=>Dc l=none∧AB [] w0 w) ?_ ?_
 ·refine BH (fun (i:Nat)=>[(0,.slice (some ⟨rb,0,none⟩) l.length cap),(1,.func (.func 92) #[] #[]),(7,.int .i64 (l.length:Nat)),(8,.int .i64 (i:Nat))]) (fun i w=>i≤l.length∧(Dc (l.drop i)).map (·+i)=Dc l∧AB [] w0 w) (fun i=>l.length - i) 0 Ad ⟨aC7 _,by rw [List.drop_zero];cases Dc l <;> rfl,hs.AE rfl⟩ fun i env wl ⟨hi,he,BP⟩=>?_;clear hs;have hs:=St.nil wl
  repeat' (first|refine Sa ?_|refine Aw rfl (fun hc=>?_) fun hc=>?_|fail)
  ·have hlt:i < l.length:=by omega
   have hpk:=Kl (rest:=rest) hlt;have ei:=DP (m:=l.length) hlt om;rw [cT hlt] at he;generalize l[i]=q at *;refine ix (h0:=(by omega)) (h1:=(by omega)) ?_;refine Ia (vs:=q.cells) (BP.block h AA) ?_ ?_
   ·simpa using hpk
   refine cl (h:=by exact pY q _) ?_;by_cases hq:q.st=0
   ·rw [if_pos hq] at he;rw [hq];rintro v w' ⟨rfl,ho⟩;replace hs:=hs.AP ho;refine Je ?_;refine AG ?_;exact ⟨by rw [← he];simp [oH,packed],BP.trans (hs.AE rfl)⟩
   ·rw [if_neg hq] at he;rw [show (q.st == 0)=false by simpa using hq];rintro v w' ⟨rfl,ho⟩;replace hs:=hs.AP ho;refine Jd ?_;refine A2 (i+1) (by show l.length - (i+1) < l.length - i;omega) (by (repeat (first | exact Ag | (apply A8;first | exact rfl | exact congrArg (Value.int .i64) ei)))) ⟨by show i+1≤_;omega,?_,BP.trans (hs.AE rfl)⟩;rw [← he];cases Dc (l.drop (i+1)) with
    | none=>rfl
    | some j=>simp;omega
  ·have e:i=l.length:=by omega
   subst e;rw [List.drop_length] at he;exact Au () Ad ⟨he.symm,BP⟩
 ·rintro _ env w ⟨he,BP⟩;clear hs;have hs:=St.nil w;refine Ja ?_;refine AG ?_;exact ⟨by rw [he];rfl,BP.trans (hs.AE rfl)⟩
def Eu (l:List Tk) (x:Tk):Int:=bif Ba x then (match Dc l with | some i=>(i:Int)+1 | none=>0) else 0
def Ef (l:List Tk) (x:Tk):Int:=bif Ba x then (match Dc l with | some _=>0 | none=>7) else 2
def D4 (l:List Tk) (x:Tk):List Tk:=bif Ba x then (match Dc l with | some i=>l.set i { x with id:=(i:Int)+1 } | none=>l) else l
theorem LP (tb rb:Nat) (l:List Tk) (x:Tk) (w0:World) (h:DW w0 tb rb l):AO prog 55 #[.pointer (some ⟨tb,0,none⟩),KM x] w0 fun v w'=>v = .tuple #[.int .i64 (Eu l x),.int .i64 (Ef l x)]∧DW w' tb rb (D4 l x)∧AB [rb] w0 w':=by
 have hT:=h;obtain ⟨cap,rest,h1,h2,h3,h4⟩:=h;have hs:=((St.nil w0).AF h1).AF h2;have lb1:=lt_of_block h1;have lb2:=lt_of_block h2;refine AS func55 ntmps55 ?_
 repeat' (first|refine Sd ?_|(refine bx hs ?_;intro b w hz hs)|fail)
 refine cl (h:=by exact SL x _) ?_;rw [show (decide (1≤x.st) && decide (x.st≤3))=Ba x from rfl];unfold Eu Ef D4;cases hr:Ba x with
 | false =>
   rintro v w' ⟨rfl,ho⟩;replace hs:=hs.AP ho;refine Je ?_;refine AG ?_;have ho:=hs.AD [] (by simp [h1,h2]) sD;exact ⟨rfl,hT.only ho,ho.weaken AA⟩
 | true =>
   rintro v w' ⟨rfl,ho⟩;replace hs:=hs.AP ho;refine Jd ?_;refine cl (h:=by exact dU rb cap l rest _ h3 (hs.get (b:=rb) (o:=Lr l rest) AX)) ?_;simp only [cond_true];cases e:Dc l with
   | none =>
     rintro v w' ⟨rfl,ho⟩;replace hs:=hs.AP ho;refine Je ?_;refine AG ?_;have ho:=hs.AD [] (by simp [h1,h2]) sD;exact ⟨rfl,hT.only ho,ho.weaken AA⟩
   | some i =>
     have hi:=LN e;have hpt:=Pf { x with id:=(i:Int)+1 } (rest:=rest) hi;have ew:IntKind.i64.wrap ((i:Int)+1)=(i:Int)+1:=by rw [wrap_i64];omega
     rw [show oH (some i)=(i:Int) from rfl];rintro v w' ⟨rfl,ho⟩;replace hs:=hs.AP ho;refine vs ?_;refine Jb ?_;refine Aq ?_;refine vs ?_;refine vs ?_;rw [decide_eq_false (show ¬ ((i:Int) < 0) by omega)];refine Jg ?_;refine Aq ?_;refine vs ?_;refine vs ?_;rw [ew]
     repeat' (first|refine Sb ?_|(refine st hs ?_;intro w hs)|fail)
     refine dr [7] hs ?_;intro hX w hs;refine tks 0 6 ?_;refine tk 6 hX (hr:=fun w' hH=>BA AJ rfl rfl rfl (by show (0:Int)≤(i:Int);omega) (by show (i:Int) < _;omega)) (k:=?_);refine dt 7 hX ?_;refine AV hs (cs:=CR l ++ rest) (vs:=Tk.cells { x with id:=(i:Int)+1 }) (cs':=CR (l.set i { x with id:=(i:Int)+1 }) ++ rest) (hc:=?_) ?_;rotate_left
     ·simpa using hpt
     intro w hs;refine Jn ?_;refine en ?_;refine Ja ?_;refine AG ?_;have ho:=hs.AD [rb] (by simp [h1]) sD;refine ⟨rfl,⟨cap,rest,?_,hs.get (b:=rb) AX,by rw [aDN];exact h3,by rw [aDN];exact h4⟩,ho⟩;rw [aDN];exact hs.get (b:=tb) AX
def A6 (l:List Tk):List Tk:=l.filter fun x=>decide (x.st≠0)
theorem Zu (l:List Tk) (x:Tk):A6 (l ++ [x])=if x.st=0 then A6 l else A6 l ++ [x]:=by
 unfold A6;rw [List.filter_append];by_cases h:x.st=0
 ·rw [if_pos h];simp [h]
 ·rw [if_neg h];simp [h]
theorem cA (a b:List Tk):CR (a ++ b)=CR a ++ CR b:=by simp [CR]
theorem fV (tb rb:Nat) (l:List Tk) (w0:World) (h:DW w0 tb rb l):AO prog 12 #[.pointer (some ⟨tb,0,none⟩)] w0 fun v w'=>(∃ G,B6 w' 51 6 v (A6 l).length (CR (A6 l)) G∧∀ k∈G,w0.heap.size≤k)∧AB [] w0 w':=by
 obtain ⟨cap,rest,h1,h2,h3,h4⟩:=h;have hs:=(St.nil w0).AF h1;refine AS func12 ntmps12 ?_;refine Jd ?_;have BF:=hs.AD [] (by simp [h1]) sD;refine BM (fun (v3:Value)=>[(3,v3)]) (fun v3 w=>AB [] w0 w∧∃ G,B6 w 51 6 v3 (A6 l).length (CR (A6 l)) G∧∀ k∈G,w0.heap.size≤k) ?_ ?_
 ·refine BH (fun (x:Nat × Value)=>[(3,x.2),(11,.slice (some ⟨rb,0,none⟩) l.length cap),(12,.int .i64 (l.length:Nat)),(13,.int .i64 (x.1:Nat))])
   (fun x w=>x.1≤l.length∧AB [] w0 w∧∃ G,B6 w 51 6 x.2 (A6 (l.take x.1)).length (CR (A6 (l.take x.1))) G∧∀ k∈G,w0.heap.size≤k) (fun x=>l.length - x.1) (0,.slice none 0 0) Ad ⟨aC7 _,BF,[],.inl ⟨rfl,rfl,rfl,rfl⟩,by simp⟩ fun x env wl ⟨hi,BP,hT⟩=>?_
  obtain ⟨i,v5⟩:=x;simp only at hi hT;obtain ⟨G,hG,DV⟩:=hT;clear hs;have hs:=St.nil wl
  repeat' (first|refine Sa ?_|refine Aw rfl (fun hc=>?_) fun hc=>?_|fail)
  ·have hlt:i < l.length:=by omega
   have hpk:=Kl (rest:=rest) hlt;have ei:=DP (m:=l.length) hlt om;have et:A6 (l.take (i+1))=if l[i].st=0 then A6 (l.take i) else A6 (l.take i) ++ [l[i]]:=by rw [CH hlt,Zu]
   have zL:=hG.lt;have hle:(A6 (l.take i)).length≤32:=by have:=aD6 (fun x:Tk=>decide (x.st≠0)) (l.take i);rw [aDg] at this;unfold A6;omega
   generalize l[i]=q at *;generalize A6 (l.take i)=A at *;refine ix (h0:=(by omega)) (h1:=(by omega)) ?_;refine Ia (vs:=q.cells) (BP.block h2 AA) ?_ ?_
   ·simpa using hpk
   by_cases hq:q.st=0
   ·rw [if_pos hq] at et
    repeat' (first|refine Sa ?_|(refine AV hs ?_;intro w hs)|(refine al hs ?_;intro b w hz hs)|(refine bs hs ?_;intro b w hz hs)|refine xc_cond rfl (fun hc=>?_) fun hc=>?_|fail)
    ·exact absurd hq (by simpa using hc)
    ·refine A2 (i+1,v5) (by show l.length - (i+1) < l.length - i;omega) (by (repeat (first | exact Ag | (apply A8;first | exact rfl | exact congrArg (Value.int .i64) ei)))) ⟨by show i+1≤_;omega,BP.trans (hs.AE rfl),G,?_,DV⟩;simp only [et];exact hG.keep (hs.AE rfl) AA
   ·rw [if_neg hq] at et
    repeat' (first|refine Sa ?_|(refine AV hs ?_;intro w hs)|(refine al hs ?_;intro b w hz hs)|(refine bs hs ?_;intro b w hz hs)|refine xc_cond rfl (fun hc=>?_) fun hc=>?_|fail)
    ·have Ds:=hs.get At.head;have AN:=hs.AE rfl;refine CF AJ rfl rfl rfl rfl rfl rfl rfl (by decide) (lit_cells (news:=q.cells) Ds) (by simp [Value.oneCell']) (hG.keep AN AA) om om ?_;intro M8 w4 ⟨G',G0,IY⟩ Ar;have Ob:=AN.size;have O2:=BP.size;clear hs;have hs:=St.nil w4;refine Ja ?_;refine A2 (i+1,M8) (by show l.length - (i+1) < l.length - i;omega) (by (repeat (first | exact Ag | (apply A8;first | exact rfl | exact congrArg (Value.int .i64) ei)))) ⟨by show i+1≤_;omega,((BP.trans AN).news DV Ar).trans (hs.AE rfl),G',?_,?_⟩
     ·simp only [et];rw [aCv,cA,show CR [q]=q.cells by simp [CR]];exact G0.keep (hs.AE rfl) AA
     ·intro k hk;rcases IY k hk with h | h
      ·exact DV k h
      ·omega
    ·exact absurd (by simpa using hc) hq
  ·have e:i=l.length:=by omega
   subst e;rw [aDK] at hG;exact Au v5 Ad ⟨BP,G,hG,DV⟩
 ·rintro v5 env w ⟨BP,G,hG,DV⟩;clear hs;have hs:=St.nil w;refine Ja ?_;refine AG ?_;have AU:=hs.AE rfl;exact ⟨⟨G,hG.keep AU AA,DV⟩,BP.trans AU⟩
end Go.Proofs.Q0
namespace Go.Proofs.Q0
open Go Go.RowKit Tryz
def B7:Nat→List Tk→Prop
 | _,[]=>True
 | k,x :: l=>(x.st≠0→x.id=(k:Int)+1∧Ba x=true)∧B7 (k+1) l
theorem B7.rep:∀ (m k:Nat),B7 k (List.replicate m .zero)
 | 0,_=>trivial
 | m+1,k=>⟨fun h=>absurd rfl h,B7.rep m (k+1)⟩
theorem B7.set {y:Tk}:∀ {l:List Tk} {k i:Nat},B7 k l→(y.st≠0→y.id=(k:Int)+i+1∧Ba y=true)→B7 k (l.set i y)
 | [],k,i,_,_=>by rw [List.set_nil];trivial
 | x :: l,k,0,h,hy=>⟨fun hn=>by obtain ⟨a,b⟩:=hy hn;exact ⟨by omega,b⟩,h.2⟩
 | x :: l,k,i+1,h,hy=>⟨h.1,B7.set h.2 (fun hn=>by obtain ⟨a,b⟩:=hy hn;exact ⟨by omega,b⟩)⟩
theorem B7.get:∀ {l:List Tk} {k i:Nat} {x:Tk},B7 k l→l[i]?=some x→x.st≠0→x.id=(k:Int)+i+1∧Ba x=true
 | [],_,_,_,_,h,_=>by simp at h
 | y :: l,k,0,x,hI,h,hn=>by
   rw [List.getElem?_cons_zero] at h;cases h;obtain ⟨a,b⟩:=hI.1 hn;exact ⟨by omega,b⟩
 | y :: l,k,i+1,x,hI,h,hn=>by
   rw [List.getElem?_cons_succ] at h;obtain ⟨a,b⟩:=B7.get hI.2 h hn;exact ⟨by omega,b⟩
theorem GP {l:List Tk} {x:Tk} (h:x∈A6 l):x.st≠0∧∃ i:Nat,l[i]?=some x:=by
 unfold A6 at h;obtain ⟨a,b⟩:=List.mem_filter.1 h;exact ⟨by simpa using b,List.mem_iff_getElem?.1 a⟩
theorem Oh {l:List Tk} {i:Nat} {x:Tk} (h:l[i]?=some x):BK l ((i:Int)+1)=if x.st≠0 then some i else none:=by
 have hi:i < l.length:=by
  rcases aDL i l.length with h1 | h1
  ·exact h1
  ·rw [aDY h1] at h;cases h
 unfold BK;rw [show ((i:Int)+1 - 1).toNat=i by omega,aDI,h];by_cases hq:x.st=0
 ·rw [if_neg (by simp [hq]),if_neg (by simp [hq])]
 ·rw [if_pos ⟨by omega,by omega,by simpa using hq⟩,if_pos hq]
theorem N6 {l:List Tk} {id:Int} {i:Nat} (h:BK l id=some i):∃ x,l[i]?=some x∧x.st≠0∧id=(i:Int)+1:=by
 obtain ⟨hi,rfl⟩:=I2 h;have e:=Oh (aC3 hi);rw [h] at e;refine ⟨l[i],aC3 hi,fun hq=>?_,rfl⟩;rw [if_neg (by simp [hq])] at e;cases e
theorem mG {l:List Tk} {i:Nat} {x:Tk} (h:l[i]?=some x) (hx:x.st≠0):Ay l ((i:Int)+1)=x:=by
 unfold Ay;rw [Oh h,if_pos hx];show l.getD i .zero=x;rw [aDI,h];rfl
theorem GG {l:List Tk} (hI:B7 0 l) {x:Tk} (h:x∈A6 l):∃ i,BK l x.id=some i∧l[i]?=some x∧Ay l x.id=x:=by
 obtain ⟨hn,i,hi⟩:=GP h;have e:=(hI.get hi hn).1;have e2:x.id=(i:Int)+1:=by omega
 refine ⟨i,?_,hi,?_⟩
 ·rw [e2,Oh hi,if_pos hn]
 ·rw [e2];exact mG hi hn
theorem lQ {l:List Tk} (hI:B7 0 l) {id:Int} {i:Nat} (h:BK l id=some i):∃ x,x∈A6 l∧x.id=id∧l[i]?=some x:=by
 obtain ⟨x,a,b,c⟩:=N6 h;refine ⟨x,?_,by have:=(hI.get a b).1;omega,a⟩;unfold A6;exact List.mem_filter.2 ⟨List.mem_iff_getElem?.2 ⟨i,a⟩,by simpa using b⟩
theorem VS (l:List Tk) (x:Tk):(D4 l x).length=l.length:=by
 unfold D4;cases Ba x with
 | false=>rfl
 | true=>cases Dc l with
   | none=>rfl
   | some i=>exact aDN
theorem UJ (l:List Tk) (id:Int):(FJ l id).length=l.length:=by
 unfold FJ;cases BK l id with
 | none=>rfl
 | some i=>exact aDN
theorem mL (l:List Tk) (x:Tk):(ES l x).length=l.length:=by
 unfold ES;cases Ba x with
 | false=>rfl
 | true=>cases BK l x.id with
   | none=>rfl
   | some i=>exact aDN
theorem B7.add {l:List Tk} (h:B7 0 l) (x:Tk):B7 0 (D4 l x):=by
 unfold D4;cases hr:Ba x with
 | false=>exact h
 | true=>cases e:Dc l with
   | none=>exact h
   | some i=>exact h.set fun _=>⟨by show (i:Int)+1=_;omega,hr⟩
theorem B7.drop {l:List Tk} (h:B7 0 l) (id:Int):B7 0 (FJ l id):=by
 unfold FJ;cases BK l id with
 | none=>exact h
 | some i=>exact h.set fun hn=>absurd rfl hn
theorem B7.sets {l:List Tk} (h:B7 0 l) (x:Tk):B7 0 (ES l x):=by
 unfold ES;cases hr:Ba x with
 | false=>exact h
 | true=>cases e:BK l x.id with
   | none=>exact h
   | some i =>
     obtain ⟨_,_,_,e2⟩:=N6 e;exact h.set fun _=>⟨by omega,hr⟩
theorem Wj {x:Tk} (h:Ba x=true):x.st≠0:=fun e=>by unfold Ba at h;rw [e] at h;exact absurd h (by decide)
end Go.Proofs.Q0
namespace Go.Proofs.Q0
open IB (IT)
def er (r:RT):RT:=HV r false
section
variable (f : RT → RT) (hf : ∀ r, BB (f r) = BB r)
include hf
end
end Go.Proofs.Q0
namespace Go.Proofs.Q0
open Go Go.RowKit Tryz
structure aBC where
 d:Int
 r:RT
theorem oY:Rq.zero.In:=by decide
instance:Inhabited aBC:=⟨⟨0,⟨.zero,oY⟩⟩⟩
end Go.Proofs.Q0
namespace Go.Proofs.Q0
open IB (IT)
theorem vL {r:Rq} (h:r.In) {p:Pt} {n:Int} (hp:p.In) (h0:0≤n) (h1:n≤r.left):(Cz r p n).In:=by
 refine ⟨⟨hp,h.1.2.1,h.1.2.2⟩,?_,h.2.2⟩;show BY (bif decide (r.left - n=0) then r.slice else r.left - n);cases decide (r.left - n=0) with
 | true=>exact h.2.2
 | false =>
   have:=h.2.1;show BY (r.left - n);unfold BY at *;omega
theorem Pk {c:Cs} {most:Int} (hm:0≤most) {u:Rq × Bool} (h:Fk c most=some u):u.1.In:=by
 unfold Fk DH at h;split at h
 ·rename_i hc;have hin:=LF c.A.l c.run;split at h
  ·cases h
  ·rename_i p hp
   have aAm:(Cz (DI c.A.l c.run) p (BW c most)).In:=vL hin (at_some hp).1 (by
    unfold BW EJ;have:=hin.2.1;unfold BY at this
    split <;> omega) hc.2.2
   cases e:CM (Cz (DI c.A.l c.run) p (BW c most)) with
   | none=>rw [e] at h;cases h
   | some q =>
     rw [e] at h;cases h;exact (Mv aAm e).1
 ·cases h
theorem Sq:(CQ Rq.zero).1.right=false:=by decide
theorem put_zero (A:As):Dz A (CQ .zero)=2∧GR A (CQ .zero)=A:=by
 have e:Dz A (CQ .zero)=2:=by unfold Dz GS;rw [Sq];rfl
 exact ⟨e,by unfold GR;rw [e];rfl⟩
def Az (c:Cs) (id:Int):Int × Cs:=if (Al c.A.l id).isSome then (0,⟨Fl c.A id,c.run,Ea c.carr (C2 c.A id)⟩) else (14,c)
def Bk (c:Cs) (id:Int):Int × Cs:=match Al c.A.l id with
 | none=>(14,c)
 | some a=>if a.1.asleep=true then (6,c) else if Dm c.A id < 0 then (0,⟨Gl c.A id true,c.run,c.carr⟩) else Az c id
def CN (c:Cs) (id:Int):Int × Cs:=match Al c.A.l id with
 | none=>(14,c)
 | some a=>if a.1.asleep=true then (0,⟨Gl c.A id false,c.run,c.carr⟩) else (6,c)
def Jz (A:As) (r:Rq) (q:Int):Option Rq:=(Ga (mA A) r.i.p q).bind fun p=>JV r p
def Mh (c:Cs) (id:Int):Option Rq→Int × Cs
 | none=>(8,c)
 | some y=>(Dz c.A (CQ y),⟨GR c.A (CQ y),c.run,Ea c.carr (C2 c.A id)⟩)
def Bp (c:Cs) (id q:Int):Int × Cs :=
 if Eo q=false then (2,c) else match Al c.A.l id with
 | none=>(14,c)
 | some a=>Mh c id (Jz c.A a.1 q)
def Bq (c:Cs) (id ns:Int):Int × Cs :=
 if EZ ns=false then (2,c) else match Al c.A.l id with
 | none=>(14,c)
 | some a=>(Dz c.A (CQ ((Dh a.1 ns).getD .zero)),⟨GR c.A (CQ ((Dh a.1 ns).getD .zero)),c.run,c.carr⟩)
theorem uZ {r:Rq} (h:r.In) {p:Pt} (hp:p.In) {y:Rq} (e:JV r p=some y):y.In:=by
 unfold JV at e;cases k:r.right with
 | false=>rw [k] at e;cases e
 | true=>rw [k] at e;exact (Mv (⟨⟨hp,h.1.2⟩,h.2⟩:Rq.In ⟨⟨p,r.i.id,r.i.d⟩,r.left,r.slice,r.asleep⟩) e).1
theorem pM {r:Rq} (h:r.In) {n:Int} (hn:BY n) {y:Rq} (e:Dh r n=some y):y.In:=by
 unfold Dh at e;cases k:r.right with
 | false=>rw [k] at e;cases e
 | true=>rw [k] at e;exact (Mv (⟨h.1,h.2.1,hn⟩:Rq.In ⟨r.i,r.left,n,r.asleep⟩) e).1
theorem zT {m:Mn} {p:Pt} {q:Int} {y:Pt} (e:Ga m p q=some y):y.In:=by
 unfold Ga at e;split at e
 ·exact (at_some e).1
 ·cases e
structure aCM where
 d:Int
 id:Int
 w:Int
 ns:Int
 lag:Int
instance:Inhabited aCM:=⟨⟨0,0,0,0,0⟩⟩
end Go.Proofs.Q0
namespace Go.Proofs.Q0
open Go Go.RowKit Tryz
attribute [local irreducible] XS XC XA AY AR A9 A1 A0 Aa Ae AW SE
theorem HA {w0 w':World} {G:List Nat} {J:Int × Cs} {c:Cs} {n:Int} {P Q:Prop} (e:J=(n,c)) (hn:n≠0) (hq:Q) (ho:AB [] w0 w'):Value.int .i64 n = .int .i64 J.1∧Q∧(J.1=0→P)∧AB G w0 w':=by
 subst e;exact ⟨rfl,hq,fun h=>absurd h hn,ho.weaken AA⟩
theorem S8 (l:List RT) (id:Int):∃ x bs,DI l id=x∧(Al l id).isSome=bs∧x.In∧((bs=false∧Al l id=none)∨∃ a,bs=true∧Al l id=some a∧x=a.1):=by
 cases e:Al l id with
 | none=>exact ⟨_,_,rfl,rfl,LF _ _,.inl ⟨rfl,rfl⟩⟩
 | some a=>exact ⟨_,_,rfl,rfl,LF _ _,.inr ⟨a,rfl,rfl,by unfold DI;rw [e]⟩⟩
theorem jN (b2:Nat) (c:Cs) (id:Int) (wb w0:World) (hid:In64 id) (B2:w0.heap[b2]?=some (.cells #[.int .i64 id] 3 (0,0))) :
 OK wb w0 109 [.pointer (some ⟨b2,0,none⟩)] [] (fun _=>True) c (CN c id).1 (CN c id).2 .none:=by
 intro cb rb F hC hR ZL hrb;have FB:=hC;have Mg:=hR;obtain ⟨sb,Fs,rfl,h1,hS,h3,h4⟩:=hC;obtain ⟨x,bs,ex,eb,NK,hcs⟩:=S8 c.A.l id;generalize hJ:CN c id=J;have hs:=((St.nil w0).AF h1).AF B2;refine AS func109 ntmps109 ?_;refine Ja ?_;refine dr [] hs ?_;intro hX w hs;refine tks 0 5 ?_;refine Gq 9 6 hs ?_;intro f X w hp;have hs:=hp.st;apply BI 5 9 (f:=f) (X:=X) hX hp;exact rfl;exact rfl;(apply AT AJ;exact rfl);kernel_rfl;kernel_rfl;kernel_rfl;kernel_rfl;(intro X Y;(repeat (first | exact A4 | refine A5 ?_ (by exact rfl))));(intro w' hs;first|exact AI hs.hold|exact AI hs.hold.tail|exact Ab rfl);intro f X w hp;have hs:=hp.st;have ho:=hs.AD [] (by simp [h1,B2]) sD;refine cl (h:=by exact J7 sb c.A Fs id _ (hS.only ho) hid) ?_;rw [ex,eb];rintro v w' ⟨rfl,ho⟩;replace hp:=hp.only ho;replace hs:=hp.st;refine Jn ?_;refine tk 6 hX (hc:=by cases f <;> kernel_rfl) (k:=?_);refine tk 7 hX (hc:=by cases f <;> kernel_rfl) (k:=?_);refine tk 8 hX (hc:=by cases f <;> kernel_rfl) (k:=?_);apply Bb 9 (f:=f) (X:=X) hX hp;exact rfl;(apply AT AJ;exact rfl);kernel_rfl;kernel_rfl;(intro X Y;(repeat (first | exact A4 | refine A5 ?_ (by exact rfl))));(intro w' hs;first|exact AI hs.hold|exact AI hs.hold.tail|exact Ab rfl);intro b w hI hs;refine dt 10 hX ?_
 repeat' (first|refine Nx.h ?_|(refine AV hs ?_;intro w hs)|fail)
 refine dn ?_;refine tk 11 hX ?_;refine en ?_;rcases hcs with ⟨hb,e⟩ | ⟨a,hb,e,hx⟩
 ·subst hb;refine Je ?_;refine AG ?_;exact HA (n:=14) (by rw [← hJ];unfold CN;rw [e]) (by decide) trivial (hs.AD [] (by simp [h1,B2]) sD)
 ·subst hb
  repeat' (first|refine Sd ?_|refine xc_cond rfl (fun hc=>?_) fun hc=>?_|fail)
  ·refine AG ?_;have k:x.asleep=false:=by simpa using hc
   exact HA (n:=6) (by rw [← hJ];unfold CN;rw [e];show (if a.1.asleep=true then _ else _)=_;rw [← hx,k];rfl) (by decide) trivial (hs.AD [] (by simp [h1,B2]) sD)
  ·have k:x.asleep=true:=by simpa using hc
   have eJ:J=(0,⟨Gl c.A id false,c.run,c.carr⟩):=by rw [← hJ];unfold CN;rw [e];show (if a.1.asleep=true then _ else _)=_;rw [← hx,k];rfl
   have ho:=hs.AD [] (by simp [h1,B2]) sD;have x1:=ho.block h1 AA;have x3:=ho.block B2 AA;clear hs;have hs:=((St.nil _).AF x1).AF x3;refine dr [] hs ?_;intro hX w hs;refine tks 0 5 ?_;refine dt 5 hX ?_;have AL:=ho.trans (hs.AD [] (by simp [x1,x3]) sD);have Gw:=hS.only AL;refine cl (h:=by exact SY sb c.A Fs id false _ Gw hid) ?_;rw [eb];rintro v w2 ⟨rfl,F2,E7,D6,AN⟩;have n1:cb∉Fs:=Bh.Ny h1 hS;have n3:b2∉Fs:=hS.not B2 rfl;have y1:=AN.block (AL.block h1 AA) n1;have y3:=AN.block (AL.block B2 AA) n3;have O2:=AL.size
   have LR:DS w2 rb .none [rb]:=(hR.only AL).Ai AN (fun k hk hm=>by
    obtain rfl:=List.mem_singleton.1 hk;exact Mg.apart FB k AA (by simp [hm]))
   clear hs;have hs:=((St.nil w2).AF y1).AF y3;refine Jn ?_;refine tk 6 hX ?_;refine en ?_;refine Jb ?_;refine AG ?_;have AU:=hs.AD [] (by simp [y1,y3]) sD;subst eJ;refine ⟨rfl,trivial,fun _=>⟨cb :: F2,[rb],⟨sb,F2,rfl,AU.block y1 AA,E7.only AU,h3,h4⟩,LR.only AU,fun k hk=>?_,fun k hk => .inl (by simpa using hk)⟩,((AL.weaken AA).step AN (fun k hk => .inl (by simp [hk]))).step AU AA⟩;rcases aCu.1 hk with rfl | hk
   ·simp
   ·rcases D6 k hk with h | h
    ·simp [h]
    ·exact .inr om
theorem LY {w w':World} {vg vp:Value} {r:Rp} {Gg Gp:List Nat} (p1:Z7 w vg r.g Gg) (p2:U2 w vp r.p Gp) {G:List Nat} (ho:AB G w w') (h:∀ b∈G,∃ cs ty fz,w.heap[b]?=some (.cells cs ty fz)∧ty≠170∧ty≠168):M0 w' (.agg #[vg,vp]) r :=
 ⟨_,_,Gg,Gp,rfl,p1.keep ho (fun k hk hm=>by obtain ⟨cs,ty,fz,a,b,c⟩:=h k hm;exact BQ p1 a b hk),p2.keep ho (fun k hk hm=>by obtain ⟨cs,ty,fz,a,b,c⟩:=h k hm;exact BQ p2 a c hk)⟩
theorem W8 (cb:Nat) (c:Cs) (F:List Nat) (id:Int) (w0:World) (h:Bh w0 cb c F) (hid:In64 id) :
 AO prog 73 #[.pointer (some ⟨cb,0,none⟩),.int .i64 id] w0 fun v w'=>∃ rv,v = .tuple #[rv,.int .i64 (CN c id).1]∧HS w0 cb F rv (CN c id).1 c (CN c id).2 .none w':=by
 have hs:=St.nil w0;refine AS func73 ntmps73 ?_;refine Ah ?_;refine Aq ?_;refine bx hs ?_;intro b6 w _ hs;refine al hs ?_;intro Ew w hz hs;refine Ja ?_;have ho:=hs.AE rfl;have hz:=ho.size;have x6:=hs.get (b:=b6) AX;have IJ:=hs.get (b:=Ew) AX;have Ej:=h.only ho;have hb:=hs.new _ aCw rfl;simp only at hb;refine cl (h:=by exact Jw cb c F _ Ej 109 [.pointer (some ⟨b6,0,none⟩)] [] (fun _=>True) (CN c id).1 (CN c id).2 .none (fun _ _ _ _ _ _=>trivial) AA (by simp [Rp.none]) (fun w1 AL=>jN b6 c id _ w1 hid (AL.block x6 AA))) ?_;rintro v w2 ⟨rv,rfl,_,IG,⟨F',hC',C0⟩,AN⟩;obtain ⟨vg,vp,Gg,Gp,rfl,p1,p2⟩:=IG;obtain ⟨ag,cg,rfl⟩:=BU p1;obtain ⟨ap,cp,rfl⟩:=BU p2;have x2:=AN.block IJ (fun hm=>by obtain rfl:=List.mem_singleton.1 hm;exact Ej.not IJ rfl (by obtain ⟨_,_,rfl,_⟩:=Ej;simp));clear hs;have hs:=(St.nil w2).AF x2
 repeat' (first|refine Sb ?_|(refine AV hs ?_;intro w hs)|fail)
 refine AG ?_;have AU:AB [Ew] w2 _:=hs.AD [Ew] AA sD
 exact ⟨_,rfl,LY p1 p2 AU (fun b hm=>by obtain rfl:=List.mem_singleton.1 hm;exact ⟨_,_,_,x2,by decide,by decide⟩),⟨F',hC'.Ai AU (fun k hk hm=>by obtain rfl:=List.mem_singleton.1 hm;exact hC'.not x2 rfl hk),fun k hk=>by
  rcases C0 k hk with h | h
  ·exact .inl h
  ·exact .inr om⟩,((ho.weaken AA).step AN (fun k hk => .inl hk)).step AU (fun k hk => .inr (by obtain rfl:=List.mem_singleton.1 hk;exact hb))⟩
theorem dK (b2 b3:Nat) (c:Cs) (id ns:Int) (wb w0:World) (hid:In64 id) (Dd:BY ns) (B2:w0.heap[b2]?=some (.cells #[.int .i64 id] 3 (0,0))) (B3:w0.heap[b3]?=some (.cells #[.int .u64 ns] 22 (0,0))) :
 OK wb w0 116 [.pointer (some ⟨b2,0,none⟩),.pointer (some ⟨b3,0,none⟩)] [] (fun _=>True) c (Bq c id ns).1 (Bq c id ns).2 .none:=by
 intro cb rb F hC hR ZL hrb;have FB:=hC;have Mg:=hR;obtain ⟨sb,Fs,rfl,h1,hS,h3,h4⟩:=hC;obtain ⟨x,bs,ex,eb,NK,hcs⟩:=S8 c.A.l id;generalize hJ:Bq c id ns=J;have hs:=(((St.nil w0).AF h1).AF B2).AF B3;refine AS func116 ntmps116 ?_;refine Ja ?_;refine dr [] hs ?_;intro hX w hs;refine tks 0 5 ?_;refine Gq 9 7 hs ?_;intro f X w hp;have hs:=hp.st;apply BI 5 9 (f:=f) (X:=X) hX hp;exact rfl;exact rfl;(apply AT AJ;exact rfl);kernel_rfl;kernel_rfl;kernel_rfl;kernel_rfl;(intro X Y;(repeat (first | exact A4 | refine A5 ?_ (by exact rfl))));(intro w' hs;first|exact AI hs.hold|exact AI hs.hold.tail|exact Ab rfl);intro f X w hp;have hs:=hp.st;have ho:=hs.AD [] (by simp [h1,B2,B3]) sD;refine cl (h:=by exact J7 sb c.A Fs id _ (hS.only ho) hid) ?_;rw [ex,eb];rintro v w' ⟨rfl,ho⟩;replace hp:=hp.only ho;replace hs:=hp.st;refine Jn ?_;refine tk 6 hX (hc:=by cases f <;> kernel_rfl) (k:=?_);refine tk 7 hX (hc:=by cases f <;> kernel_rfl) (k:=?_);refine tk 8 hX (hc:=by cases f <;> kernel_rfl) (k:=?_);apply Bb 9 (f:=f) (X:=X) hX hp;exact rfl;(apply AT AJ;exact rfl);kernel_rfl;kernel_rfl;(intro X Y;(repeat (first | exact A4 | refine A5 ?_ (by exact rfl))));(intro w' hs;first|exact AI hs.hold|exact AI hs.hold.tail|exact Ab rfl);intro b w hI hs;refine dt 10 hX ?_
 repeat' (first|refine Nx.h ?_|(refine AV hs ?_;intro w hs)|fail)
 refine dn ?_;refine tk 11 hX ?_;refine en ?_;refine Ja ?_;refine cl (h:=by exact Sp ns _) ?_;cases c3:EZ ns
 ·rintro v w' ⟨rfl,ho⟩;replace hs:=hs.AP ho;refine Je ?_;refine AG ?_;exact HA (n:=2) (by rw [← hJ];unfold Bq;rw [if_pos c3]) (by decide) trivial (hs.AD [] (by simp [h1,B2,B3]) sD)
 rcases hcs with ⟨hb,e⟩ | ⟨a,hb,e,hx⟩
 ·subst hb
  rintro v w' ⟨rfl,ho⟩;replace hs:=hs.AP ho;repeat' (first|refine vs ?_|refine Aq ?_|refine Nx.h ?_|refine FP ?_|refine Eb ?_|fail)
  refine AG ?_;exact HA (n:=14) (by rw [← hJ];unfold Bq;rw [if_neg (by rw [c3];decide),e]) (by decide) trivial (hs.AD [] (by simp [h1,B2,B3]) sD)
 ·subst hb;have eJ:J=(Dz c.A (CQ ((Dh x ns).getD .zero)),⟨GR c.A (CQ ((Dh x ns).getD .zero)),c.run,c.carr⟩):=by rw [← hJ];unfold Bq;rw [if_neg (by rw [c3];decide),e,hx]
  rintro v w' ⟨rfl,ho⟩;replace hs:=hs.AP ho;refine Jd ?_;refine cl (h:=by exact Xr x ns NK Dd _) ?_
  have hy:(CQ ((Dh x ns).getD .zero)).1=(Dh x ns).getD .zero:=by
   refine Ij ?_;cases q:Dh x ns with
   | none=>decide
   | some y=>exact pM NK Dd q
  have er:iM (Dh x ns) = .tuple #[rv (CQ ((Dh x ns).getD .zero)).1,.bool (Dh x ns).isSome]:=by rw [hy];rfl
  rw [er];generalize CQ ((Dh x ns).getD .zero)=r at *;generalize (Dh x ns).isSome=z at *
  rintro v w' ⟨rfl,ho⟩;replace hs:=hs.AP ho;repeat' (first|refine Sb ?_|(refine AV hs ?_;intro w hs)|(refine al hs ?_;intro b w hz hs)|fail)
  have ho:=hs.AD [] (by simp [h1,B2,B3]) sD;have x1:=ho.block h1 AA;have x3:=hs.get (b:=b) AX;clear hs;have hs:=((St.nil _).AF x1).AF x3;refine dr [] hs ?_;intro hX w hs;refine tks 0 5 ?_;refine dt 5 hX ?_;have ho':=hs.AD [] (by simp [x1,x3]) sD;have AL:=ho.trans ho';have Gw:=hS.only AL;refine cl (h:=by exact RK sb c.A Fs r _ Gw) ?_;rintro v w2 ⟨rfl,F2,E7,D6,AN⟩;have n1:cb∉Fs:=Bh.Ny h1 hS;have n3:b∉Fs:=Gw.not (ho'.block x3 AA) rfl;have y1:=AN.block (AL.block h1 AA) n1;have y3:=AN.block (ho'.block x3 AA) n3;have O2:=AL.size
  have LR:DS w2 rb .none [rb]:=(hR.only AL).Ai AN (fun k hk hm=>by
   obtain rfl:=List.mem_singleton.1 hk;exact Mg.apart FB k AA (by simp [hm]))
  clear hs;have hs:=((St.nil w2).AF y1).AF y3;refine Jn ?_;refine tk 6 hX ?_;refine en ?_;refine Jb ?_;refine AG ?_;have AU:=hs.AD [] (by simp [y1,y3]) sD;subst eJ;refine ⟨rfl,trivial,fun _=>⟨cb :: F2,[rb],⟨sb,F2,rfl,AU.block y1 AA,E7.only AU,h3,h4⟩,LR.only AU,fun k hk=>?_,fun k hk => .inl (by simpa using hk)⟩,((AL.weaken AA).step AN (fun k hk => .inl (by simp [hk]))).step AU AA⟩;rcases aCu.1 hk with rfl | hk
  ·simp
  ·rcases D6 k hk with h | h
   ·simp [h]
   ·exact .inr om
theorem Up (cb:Nat) (c:Cs) (F:List Nat) (id ns:Int) (w0:World) (h:Bh w0 cb c F) (hid:In64 id) (Dd:BY ns) :
 AO prog 77 #[.pointer (some ⟨cb,0,none⟩),.int .i64 id,.int .u64 ns] w0 fun v w'=>∃ rv,v = .tuple #[rv,.int .i64 (Bq c id ns).1]∧HS w0 cb F rv (Bq c id ns).1 c (Bq c id ns).2 .none w':=by
 have hs:=St.nil w0;refine AS func77 ntmps77 ?_;refine Ah ?_;refine Aq ?_;refine bx hs ?_;intro b6 w _ hs;refine bx hs ?_;intro b7 w _ hs;refine al hs ?_;intro Ew w hz hs;refine Ja ?_;have ho:=hs.AE rfl;have hz:=ho.size;have x6:=hs.get (b:=b6) AX;have x7:=hs.get (b:=b7) AX;have IJ:=hs.get (b:=Ew) AX;have Ej:=h.only ho;have hb:=hs.new _ aCw rfl;simp only at hb;refine cl (h:=by exact Jw cb c F _ Ej 116 [.pointer (some ⟨b6,0,none⟩),.pointer (some ⟨b7,0,none⟩)] [] (fun _=>True) (Bq c id ns).1 (Bq c id ns).2 .none (fun _ _ _ _ _ _=>trivial) AA (by simp [Rp.none]) (fun w1 AL=>dK b6 b7 c id ns _ w1 hid Dd (AL.block x6 AA) (AL.block x7 AA))) ?_;rintro v w2 ⟨rv,rfl,_,IG,⟨F',hC',C0⟩,AN⟩;obtain ⟨vg,vp,Gg,Gp,rfl,p1,p2⟩:=IG;obtain ⟨ag,cg,rfl⟩:=BU p1;obtain ⟨ap,cp,rfl⟩:=BU p2;have x2:=AN.block IJ (fun hm=>by obtain rfl:=List.mem_singleton.1 hm;exact Ej.not IJ rfl (by obtain ⟨_,_,rfl,_⟩:=Ej;simp));clear hs;have hs:=(St.nil w2).AF x2
 repeat' (first|refine Sb ?_|(refine AV hs ?_;intro w hs)|fail)
 refine AG ?_;have AU:AB [Ew] w2 _:=hs.AD [Ew] AA sD
 exact ⟨_,rfl,LY p1 p2 AU (fun b hm=>by obtain rfl:=List.mem_singleton.1 hm;exact ⟨_,_,_,x2,by decide,by decide⟩),⟨F',hC'.Ai AU (fun k hk hm=>by obtain rfl:=List.mem_singleton.1 hm;exact hC'.not x2 rfl hk),fun k hk=>by
  rcases C0 k hk with h | h
  ·exact .inl h
  ·exact .inr om⟩,((ho.weaken AA).step AN (fun k hk => .inl hk)).step AU (fun k hk => .inr (by obtain rfl:=List.mem_singleton.1 hk;exact hb))⟩
end Go.Proofs.Q0
