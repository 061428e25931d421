/- A part of the proof: what its functions compute. -/
import Derived.Test.YtjiiakjheghcoaaGreatDoorGa2
set_option linter.unusedVariables false
set_option linter.unusedSimpArgs false
set_option maxRecDepth 100000
set_option maxHeartbeats 64000000
set_option linter.unusedSectionVars false
namespace Go.Proofs.Q0
structure Cq {α:Type} (lt:α→α→Bool) (S:α→Prop):Prop where
 irr:∀ a,S a→lt a a=false
 tr:∀ a b c,S a→S b→S c→lt a b=true→lt b c=true→lt a c=true
 tri:∀ a b,S a→S b→lt a b=false→lt b a=false→a=b
inductive RB (α:Type) where
 | nil
 | node (l:RB α) (x:α) (r:RB α) (c:Bool)
namespace RB
variable {α : Type}
def red:RB α→Bool
 | nil=>false
 | node _ _ _ c=>c
def left:RB α→RB α
 | nil=>nil
 | node l _ _ _=>l
def right:RB α→RB α
 | nil=>nil
 | node _ _ r _=>r
def list:RB α→List α
 | nil=>[]
 | node l x r _=>l.list ++ x :: r.list
def depth:RB α→Nat
 | nil=>0
 | node l _ r _=>1+max l.depth r.depth
def GN:RB α→RB α
 | node l x (node rl y rr _) c=>node (node l x rl true) y rr c
 | t=>t
def Cz:RB α→RB α
 | node (node ll y lr _) x r c=>node ll y (node lr x r true) c
 | t=>t
def flip:RB α→RB α
 | node (node a x b c1) y (node d z e c2) c=>node (node a x b !c1) y (node d z e !c2) !c
 | t=>t
def DX (t:RB α):RB α:=bif t.right.red && !t.left.red then GN t else t
def Dz (t:RB α):RB α:=bif t.left.red && t.left.left.red then Cz t else t
def Dy (t:RB α):RB α:=bif t.left.red && t.right.red then flip t else t
def mend (t:RB α):RB α:=Dy (Dz (DX t))
def ins (lt:α→α→Bool):RB α→α→RB α
 | nil,x=>node nil x nil true
 | node l y r c,x=>bif lt x y then mend (node (ins lt l x) y r c) else mend (node l y (ins lt r x) c)
def blacken:RB α→RB α
 | nil=>nil
 | node l x r _=>node l x r false
theorem Au (l:RB α) (x:α) (r:RB α) (c:Bool):(node l x r c).left=l:=rfl
theorem Az (l:RB α) (x:α) (r:RB α) (c:Bool):(node l x r c).right=r:=rfl
theorem BN (l:RB α) (x:α) (r:RB α) (c:Bool):(node l x r c).red=c:=rfl
theorem Jv:∀ t:RB α,(GN t).list=t.list
 | nil=>rfl
 | node l x nil c=>rfl
 | node l x (node rl y rr _) c=>by simp [GN,list]
theorem HN:∀ t:RB α,(Cz t).list=t.list
 | nil=>rfl
 | node nil x r c=>rfl
 | node (node ll y lr _) x r c=>by simp [Cz,list]
theorem HI:∀ t:RB α,(flip t).list=t.list
 | nil=>rfl
 | node nil x r c=>rfl
 | node (node a x b _) y nil c=>rfl
 | node (node a x b _) y (node d z e _) c=>by simp [flip,list]
theorem DD (t:RB α):(mend t).list=t.list:=by
 unfold mend Dy Dz DX
 repeat' (cases (_ && _) <;> simp only [cond_true,cond_false])
 all_goals simp only [Jv,HN,HI]
theorem JN:∀ t:RB α,(blacken t).list=t.list
 | nil=>rfl
 | node l x r c=>rfl
def IQ (lt:α→α→Bool) (x:α):List α→List α
 | []=>[x]
 | y :: l=>bif lt x y then x :: y :: l else y :: IQ lt x l
theorem To {lt:α→α→Bool} {x y:α} (h:lt x y=true) (R:List α):∀ L:List α,IQ lt x (L ++ y :: R)=IQ lt x L ++ y :: R
 | []=>by simp [IQ,h]
 | z :: L=>by
   simp only [List.cons_append,IQ]
   cases lt x z <;> simp [To h R L]
theorem Rb {lt:α→α→Bool} {x:α} (R:List α):∀ L:List α,(∀ z∈L,lt x z=false)→IQ lt x (L ++ R)=L ++ IQ lt x R
 | [],_=>rfl
 | z :: L,h=>by
   simp only [List.cons_append,IQ,h z List.mem_cons_self,cond_false]
   rw [Rb R L fun z hz=>h z (List.mem_cons_of_mem _ hz)]
def K4 (lt:α→α→Bool) (l:List α):Prop:=l.Pairwise fun a b=>lt a b=true
theorem IU {lt:α→α→Bool} {L R:List α} {y:α} (h:K4 lt (L ++ y :: R)):K4 lt L∧K4 lt R∧(∀ z∈L,lt z y=true)∧(∀ z∈R,lt y z=true)∧∀ a∈L,∀ b∈R,lt a b=true:=by
 unfold K4 at *
 rw [List.pairwise_append,List.pairwise_cons] at h
 obtain ⟨h1,⟨h2,h3⟩,h4⟩:=h
 exact ⟨h1,h3,fun z hz=>h4 z hz y List.mem_cons_self,h2,fun a ha b hb=>h4 a ha b (List.mem_cons_of_mem _ hb)⟩
theorem asym {lt:α→α→Bool} {S:α→Prop} (ho:Cq lt S) {a b:α} (ha:S a) (hb:S b) (h:lt a b=true):lt b a=false:=by
 cases h2:lt b a
 ·rfl
 ·have h3:=ho.tr a b a ha hb ha h h2
  rw [ho.irr a ha] at h3
  cases h3
theorem QS {lt:α→α→Bool} {S:α→Prop} (ho:Cq lt S) {x:α} (hx:S x):∀ t:RB α,K4 lt t.list→(∀ z∈t.list,S z)→(ins lt t x).list=IQ lt x t.list
 | nil,_,_=>rfl
 | node l y r c,hs,hS=>by
   obtain ⟨h1,h2,h3,h4,h5⟩:=IU hs
   simp only [list,List.mem_append,List.mem_cons] at hS
   have hl:=QS ho hx l h1 fun z hz=>hS z (.inl hz)
   have hr:=QS ho hx r h2 fun z hz=>hS z (.inr (.inr hz))
   have hy:=hS y (.inr (.inl rfl))
   simp only [ins,list]
   cases hxy:lt x y
   ·rw [cond_false,DD]
    simp only [list,hr]
    rw [Rb _ l.list fun z hz=>?_]
    ·simp [IQ,hxy]
    ·have RM:=hS z (.inl hz)
     cases hxz:lt x z
     ·rfl
     ·rw [ho.tr x z y hx RM hy hxz (h3 z hz)] at hxy;cases hxy
   ·rw [cond_true,DD]
    simp only [list,hl]
    rw [To hxy]
inductive Ok:RB α→Nat→Prop
 | nil:Ok nil 0
 | black {l r:RB α} {x:α} {h:Nat}:Ok l h→Ok r h→r.red=false→Ok (node l x r false) (h+1)
 | red {l r:RB α} {x:α} {h:Nat}:Ok l h→Ok r h→l.red=false→r.red=false→Ok (node l x r true) h
inductive Yu:RB α→Nat→Prop
 | ok {t:RB α} {h:Nat}:Ok t h→Yu t h
 | rr {l r:RB α} {x:α} {h:Nat}:Ok l h→Ok r h→l.red=true→r.red=false→Yu (node l x r true) h
theorem Ok.blacken {t:RB α} {h:Nat} (k:Ok t h):∃ h',Ok (blacken t) h':=by
 cases k with
 | nil=>exact ⟨_,.nil⟩
 | black a b c=>exact ⟨_,.black a b c⟩
 | red a b c d=>exact ⟨_,.black a b d⟩
theorem Br {t:RB α} (h:t.red=true):∃ l x r,t=node l x r true:=by
 cases t with
 | nil=>cases h
 | node l x r c=>exact ⟨l,x,r,by rw [show c=true from h]⟩
theorem Ok.E8 {l r:RB α} {x:α} {h:Nat} (k:Ok (node l x r true) h):Ok l h∧Ok r h∧l.red=false∧r.red=false:=by
 cases k with
 | red a b c d=>exact ⟨a,b,c,d⟩
theorem Ok.L4 {l r:RB α} {x:α} {h:Nat} (k:Ok (node l x r false) h):∃ h',h=h'+1∧Ok l h'∧Ok r h'∧r.red=false:=by
 cases k with
 | black a b c=>exact ⟨_,rfl,a,b,c⟩
theorem JX {t:RB α} {h:Nat} (k:Ok t h) (hr:t.red=true):t.left.red=false:=by
 obtain ⟨l,x,r,rfl⟩:=Br hr
 exact k.E8.2.2.1
theorem Px {l r:RB α} {y:α} {h:Nat} (hl:Yu l h) (hr:Ok r h) (h1:r.red=false):Ok (mend (node l y r false)) (h+1):=by
 cases hl with
 | ok hl =>
   have hlr:(l.red && l.left.red)=false:=by
    cases hc:l.red
    ·rfl
    ·rw [JX hl hc];rfl
   have:mend (node l y r false)=node l y r false:=by
    simp [mend,DX,Dz,Dy,Au,Az,BN,h1,hlr]
   rw [this]
   exact .black hl hr h1
 | rr a b c d =>
   obtain ⟨ll,z,lr,rfl⟩:=Br c
   obtain ⟨p1,p2,p3,p4⟩:=a.E8
   simp [mend,DX,Dz,Dy,Au,Az,BN,h1,Cz,flip]
   exact .red (.black p1 p2 p4) (.black b hr h1) rfl rfl
theorem Tj {l r:RB α} {y:α} {h:Nat} (hl:Ok l h) (hr:Ok r h) (h1:r.red=false):Yu (mend (node l y r true)) h:=by
 have hlr:(l.red && l.left.red)=false:=by
  cases hc:l.red
  ·rfl
  ·rw [JX hl hc];rfl
 have:mend (node l y r true)=node l y r true:=by
  simp [mend,DX,Dz,Dy,Au,Az,BN,h1,hlr]
 rw [this]
 cases hc:l.red
 ·exact .ok (.red hl hr hc h1)
 ·exact .rr hl hr hc h1
theorem GP {l r:RB α} {y:α} {h:Nat} (hl:Ok l h) (hr:Ok r h):Ok (mend (node l y r false)) (h+1):=by
 cases hc:r.red
 ·exact Px (.ok hl) hr hc
 ·obtain ⟨rl,z,rr,rfl⟩:=Br hc
  obtain ⟨p1,p2,p3,p4⟩:=hr.E8
  cases hd:l.red
  ·have:mend (node l y (node rl z rr true) false)=node (node l y rl true) z rr false:=by
    simp [mend,DX,Dz,Dy,Au,Az,BN,GN,hd,p4]
   rw [this]
   exact .black (.red hl p1 hd p3) p2 p4
  ·obtain ⟨ll,u,lr,rfl⟩:=Br hd
   obtain ⟨q1,q2,q3,q4⟩:=hl.E8
   have:mend (node (node ll u lr true) y (node rl z rr true) false)=node (node ll u lr false) y (node rl z rr false) true:=by
    simp [mend,DX,Dz,Dy,Au,Az,BN,flip,q3]
   rw [this]
   exact .red (.black q1 q2 q4) (.black p1 p2 p4) rfl rfl
theorem cK {l r:RB α} {y:α} {h:Nat} (hl:Ok l h) (hr:Ok r h) (h1:l.red=false):Yu (mend (node l y r true)) h:=by
 cases hc:r.red
 ·exact Tj hl hr hc
 ·obtain ⟨rl,z,rr,rfl⟩:=Br hc
  obtain ⟨p1,p2,p3,p4⟩:=hr.E8
  have:mend (node l y (node rl z rr true) true)=node (node l y rl true) z rr true:=by
   simp [mend,DX,Dz,Dy,Au,Az,BN,GN,h1,p4]
  rw [this]
  exact .rr (.red hl p1 h1 p3) p2 rfl p4
theorem ok_ins (lt:α→α→Bool) (x:α):∀ {t:RB α} {h:Nat},Ok t h→Yu (ins lt t x) h∧(t.red=false→Ok (ins lt t x) h):=by
 intro t h k
 induction k with
 | nil=>exact ⟨.ok (.red .nil .nil rfl rfl),fun _ => .red .nil .nil rfl rfl⟩
 | @black l r y h a b c ia ib =>
   have key:Ok (ins lt (node l y r false) x) (h+1):=by
    simp only [ins]
    cases lt x y
    ·exact GP a (ib.2 c)
    ·exact Px ia.1 b c
   exact ⟨.ok key,fun _=>key⟩
 | @red l r y h a b c d ia ib =>
   refine ⟨?_,fun h=>by cases h⟩
   simp only [ins]
   cases lt x y
   ·exact cK a (ib.2 d) c
   ·exact Tj (ia.2 c) b d
def Good (t:RB α):Prop:=t.red=false∧∃ h,Ok t h
theorem Good.nil:Good (nil:RB α):=⟨rfl,0,.nil⟩
theorem P7 (t:RB α):(blacken t).red=false:=by cases t <;> rfl
theorem Good.ins {lt:α→α→Bool} {x:α} {t:RB α} (k:Good t):Good (blacken (ins lt t x)):=by
 obtain ⟨hr,h,k⟩:=k
 exact ⟨P7 _,((ok_ins lt x k).2 hr).blacken⟩
end RB
end Go.Proofs.Q0
namespace Go.Proofs.Q0
theorem kD {a b c:Int} (h0:-9223372036854775808≤sn a b - sn c b) (h1:sn a b - sn c b < 9223372036854775808):sn a c=sn a b - sn c b:=by unfold sn at *;omega
theorem vP {b k:Int} (h:In64 k):sn (lat b k) b=k:=by unfold sn lat;unfold In64 at h;omega
theorem tS {t b:Int} (h:BV t):lat b (sn t b)=t:=by unfold sn lat;unfold BV at h;omega
theorem mP {b:Int} (h:BV b):lat b 0=b:=by unfold lat;unfold BV at h;omega
theorem PO (b:Int):sn b b=0:=by unfold sn;omega
def W4 (x y:Int):Prop:=-9223372036854775808≤x - y∧x - y < 9223372036854775808
theorem rI {a c b:Int} (h:W4 (sn a b) (sn c b)):sn a c=sn a b - sn c b:=kD h.1 h.2
theorem Ui {c a b:Int} (hc:0 < c) (h:c*a≤c*b):a≤b:=Int.le_of_mul_le_mul_left h hc
theorem QW {a b c p q r:Int} (hp:0 < p) (hq:0 < q) (hr:0 < r) (h1:a*q≤b*p) (h2:b*r≤c*q):a*r≤c*p:=by
 have k1:=Int.mul_le_mul_of_nonneg_right h1 (Int.le_of_lt hr)
 have k2:=Int.mul_le_mul_of_nonneg_right h2 (Int.le_of_lt hp)
 refine Ui hq ?_
 have e1:q*(a*r)=a*q*r:=by grind
 have e2:b*p*r=b*r*p:=by grind
 have e3:c*q*p=q*(c*p):=by grind
 omega
theorem Kc {p:Pt} (hp:p.In) (h:p.right=true):1≤p.w∧p.w≤1048576∧0≤p.r∧p.r < p.w:=by
 unfold Pt.right at h
 simp only [Bool.and_eq_true,decide_eq_true_eq] at h
 have:=Ef.1 h.1
 exact ⟨this.1,this.2,hp.2.1.1,h.2⟩
theorem OK {p q:Pt} (hp:p.In) (hq:q.In) (h1:p.right=true) (h2:q.right=true) {b:Int} (hn:W4 (sn q.t b) (sn p.t b)):JA p q=CZ (dist p b*q.w) (dist q b*p.w):=by
 have a1:=Kc hp h1
 have a2:=Kc hq h2
 unfold JA
 rw [rI hn]
 have d1:dist p b=p.w*sn p.t b+p.r:=rfl
 have d2:dist q b=q.w*sn q.t b+q.r:=rfl
 generalize sn p.t b=x at *
 generalize sn q.t b=y at *
 have e1:dist p b*q.w=p.w*q.w*x+p.r*q.w:=by rw [d1];grind
 have e2:dist q b*p.w=p.w*q.w*y+q.r*p.w:=by rw [d2];grind
 have m0:0 < p.w*q.w:=Int.mul_pos om om
 have m1:0≤p.r*q.w:=Int.mul_nonneg om om
 have m2:0≤q.r*p.w:=Int.mul_nonneg om om
 have m3:p.r*q.w < p.w*q.w:=Int.mul_lt_mul_of_pos_right om om
 have m4:q.r*p.w < p.w*q.w:=by rw [Int.mul_comm p.w];exact Int.mul_lt_mul_of_pos_right om om
 rw [e1,e2]
 generalize p.w*q.w=W at *
 generalize p.r*q.w=u at *
 generalize q.r*p.w=v at *
 rcases Int.lt_trichotomy x y with h | h | h
 ·have:W*x+W≤W*y:=by have:=Int.mul_le_mul_of_nonneg_left (show x+1≤y by omega) (Int.le_of_lt m0);rwa [Int.mul_add,Int.mul_one] at this
  have c1:CZ 0 (y - x)=-1:=by unfold CZ;rw [if_pos om]
  rw [c1,if_neg (by decide)]
  unfold CZ;rw [if_pos om]
 ·subst h
  have c1:CZ 0 (x - x)=0:=by unfold CZ;rw [if_neg om,if_neg om]
  rw [if_pos c1]
  unfold CZ
  by_cases k:u < v
  ·rw [if_pos k,if_pos om]
  ·rw [if_neg k,if_neg (show ¬ W*x+u < W*x+v by omega)]
   by_cases k':v < u
   ·rw [if_pos k',if_pos om]
   ·rw [if_neg k',if_neg om]
 ·have:W*y+W≤W*x:=by have:=Int.mul_le_mul_of_nonneg_left (show y+1≤x by omega) (Int.le_of_lt m0);rwa [Int.mul_add,Int.mul_one] at this
  have c1:CZ 0 (y - x)=1:=by unfold CZ;rw [if_neg om,if_pos om]
  rw [c1,if_neg (by decide)]
  unfold CZ;rw [if_neg om,if_pos om]
theorem ZC {α:Type} {c:α→α→Int} {pL:α→α→Bool} {S:α→Prop} (le:α→α→Prop) (h1:∀ a b,S a→S b→(c a b < 0↔¬ le b a)) (h0:∀ a b,S a→S b→(c a b=0↔le a b∧le b a)) (tot:∀ a b,S a→S b→le a b∨le b a)
 (tr:∀ a b d,S a→S b→S d→le a b→le b d→le a d) (o:Cq pL S):Cq (fun a b=>decide (c a b < 0) || (decide (c a b=0) && pL a b)) S where
 irr a ha:=by
  have k1:=h1 a a ha ha
  have:=tot a a ha ha
  simp only [o.irr a ha,Bool.and_false,Bool.or_false,decide_eq_false_iff_not,k1]
  rcases this with h | h <;> exact fun k=>k h
 tr a b d ha hb hd k1 k2:=by
  simp only [Bool.or_eq_true,Bool.and_eq_true,decide_eq_true_eq] at k1 k2 ⊢
  rw [h1 a b ha hb,h0 a b ha hb] at k1
  rw [h1 b d hb hd,h0 b d hb hd] at k2
  rw [h1 a d ha hd,h0 a d ha hd]
  have Gv:=tot a b ha hb
  have tbd:=tot b d hb hd
  have x1:=tr d a b hd ha hb
  have x2:=tr b d a hb hd ha
  have x3:=tr a b d ha hb hd
  have x4:=tr d b a hd hb ha
  rcases k1 with k1 | ⟨⟨k1,k1'⟩,k3⟩
  ·left;intro hda
   rcases k2 with k2 | ⟨⟨k2,k2'⟩,k4⟩
   ·rcases tbd with h | h
    ·exact k1 (x2 h hda)
    ·exact k2 h
   ·exact k1 (x2 k2 hda)
  ·rcases k2 with k2 | ⟨⟨k2,k2'⟩,k4⟩
   ·left;intro hda
    exact k2 (x1 hda k1)
   ·right;exact ⟨⟨x3 k1 k2,x4 k2' k1'⟩,o.tr a b d ha hb hd k3 k4⟩
 tri a b ha hb k1 k2:=by
  simp only [Bool.or_eq_false_iff,Bool.and_eq_false_iff,decide_eq_false_iff_not] at k1 k2
  rw [h1 a b ha hb,h0 a b ha hb] at k1
  rw [h1 b a hb ha,h0 b a hb ha] at k2
  have q1:le b a:=Classical.not_not.1 k1.1
  have q2:le a b:=Classical.not_not.1 k2.1
  rcases k1.2 with h | h
  ·exact absurd ⟨q2,q1⟩ h
  ·rcases k2.2 with h' | h'
   ·exact absurd ⟨q1,q2⟩ h'
   ·exact o.tri a b ha hb h h'
structure K8 (b lo:Int) (x:It):Prop where
 isin:x.In
 right:x.right=true
 low:lo≤sn x.p.t b
 high:sn x.p.t b+sn x.d.t x.p.t≤lo+4611686018427387904
theorem iright_all {x:It} (hx:x.In) (h:x.right=true):x.p.right=true∧x.d.right=true∧x.p.w=x.d.w∧0 < x.id∧0≤sn x.d.t x.p.t∧sn x.d.t x.p.t≤1152921504606846976∧(1≤x.p.w∧x.p.w≤1048576∧0≤x.p.r∧x.p.r < x.p.w)∧0≤x.d.r∧x.d.r < x.p.w:=by
 unfold It.right at h
 simp only [Bool.and_eq_true,decide_eq_true_eq] at h
 obtain ⟨⟨⟨⟨⟨h1,h2⟩,h3⟩,h4⟩,h5⟩,h6⟩:=h
 have a1:=Kc hx.1 h1
 have a2:=Kc hx.2.2 h2
 exact ⟨h1,h2,h3,h4,h5,h6,a1,a2.2.2.1,by omega⟩
def I4 (lo:Int):Prop:=-4611686018427387904≤lo∧lo≤0
theorem K8.dead {b lo:Int} {x:It} (h:K8 b lo x) (hm:I4 lo):sn x.d.t b=sn x.p.t b+sn x.d.t x.p.t∧0≤sn x.d.t x.p.t∧sn x.p.t b≤lo+4611686018427387904:=by
 obtain ⟨_,_,_,_,h5,h6,_⟩:=iright_all h.isin h.right
 have h1:=h.low
 have h2:=h.high
 unfold I4 at hm
 refine ⟨?_,h5,by omega⟩
 unfold sn at *;omega
theorem K8.move {b lo c:Int} {x:It} (h:K8 b lo x) (hm:I4 lo) (h0:lo≤sn c b) (h1:sn c b≤lo+4611686018427387904):K8 c (lo - sn c b) x∧sn x.p.t c=sn x.p.t b - sn c b:=by
 have d:=h.dead hm
 have k1:=h.low
 have k2:=h.high
 unfold I4 at hm
 have e:sn x.p.t c=sn x.p.t b - sn c b:=kD om om
 exact ⟨⟨h.isin,h.right,by omega,by omega⟩,e⟩
theorem cJ {p:Pt} {b c k:Int} (e:sn p.t c=sn p.t b - k):dist p c=dist p b - p.w*k:=by
 unfold dist;rw [e,Int.mul_sub];omega
def UZ (b:Int) (p q:Pt):Prop:=dist p b*q.w≤dist q b*p.w
theorem cmp_le {p q:Pt} {b:Int} (e:JA p q=CZ (dist p b*q.w) (dist q b*p.w)):(JA p q < 0↔¬ UZ b q p)∧(JA p q=0↔UZ b p q∧UZ b q p):=by
 rw [e];unfold UZ CZ
 split
 ·constructor <;> constructor <;> intro <;> first | omega | skip
 ·split
  ·constructor <;> constructor <;> intro <;> first | omega | skip
  ·constructor <;> constructor <;> intro <;> first | omega | skip
theorem ahead_ord {b lo:Int} (hm:I4 lo) {S:It→Prop} (hS:∀ x,S x→K8 b lo x) (hi:∀ x y,S x→S y→x.id=y.id→x=y):Cq ahead S:=by
 have hc:∀ x y,S x→S y→JA x.p y.p=CZ (dist x.p b*y.p.w) (dist y.p b*x.p.w):=fun x y hx hy=>by
  have a1:=hS x hx
  have a2:=hS y hy
  have d1:=a1.dead hm
  have d2:=a2.dead hm
  have l1:=a1.low
  have l2:=a2.low
  exact OK a1.isin.1 a2.isin.1 (iright_all a1.isin a1.right).1 (iright_all a2.isin a2.right).1 (by unfold W4;unfold I4 at hm;omega)
 have hw:∀ x,S x→0 < x.p.w:=fun x hx=>by have:=(iright_all (hS x hx).isin (hS x hx).right).2.2.2.2.2.2.1;omega
 have oid:Cq (fun x y:It=>decide (x.id < y.id)) S:=by
  constructor
  ·intro a _;simp
  ·intro a b c _ _ _ h1 h2;simp only [decide_eq_true_eq] at *;omega
  ·intro a b ha hb h1 h2;simp only [decide_eq_false_iff_not] at *;exact hi a b ha hb om
 exact ZC (c:=fun x y:It=>JA x.p y.p) (fun x y=>UZ b x.p y.p) (fun x y hx hy=>(cmp_le (hc x y hx hy)).1) (fun x y hx hy=>(cmp_le (hc x y hx hy)).2) (fun x y _ _=>Int.le_total _ _) (fun x y z hx hy hz h1 h2=>QW (hw x hx) (hw y hy) (hw z hz) h1 h2) oid
theorem sE {b lo:Int} (hm:I4 lo) {S:It→Prop} (hS:∀ x,S x→K8 b lo x) (hi:∀ x y,S x→S y→x.id=y.id→x=y):Cq due S:=by
 have hc:∀ x y,S x→S y→JA x.d y.d=CZ (dist x.d b*y.d.w) (dist y.d b*x.d.w):=fun x y hx hy=>by
  have a1:=hS x hx
  have a2:=hS y hy
  have d1:=a1.dead hm
  have d2:=a2.dead hm
  have l1:=a1.low
  have l2:=a2.low
  have r1:=iright_all a1.isin a1.right
  have r2:=iright_all a2.isin a2.right
  have u1:=a1.high
  have u2:=a2.high
  exact OK a1.isin.2.2 a2.isin.2.2 r1.2.1 r2.2.1 (by unfold W4;unfold I4 at hm;omega)
 have hw:∀ x,S x→0 < x.d.w:=fun x hx=>by
  have:=iright_all (hS x hx).isin (hS x hx).right
  have h3:=this.2.2.1
  have h4:=this.2.2.2.2.2.2.1
  omega
 exact ZC (c:=fun x y:It=>JA x.d y.d) (fun x y=>UZ b x.d y.d) (fun x y hx hy=>(cmp_le (hc x y hx hy)).1) (fun x y hx hy=>(cmp_le (hc x y hx hy)).2) (fun x y _ _=>Int.le_total _ _) (fun x y z hx hy hz h1 h2=>QW (hw x hx) (hw y hy) (hw z hz) h1 h2) (ahead_ord hm hS hi)
end Go.Proofs.Q0
namespace Go.Proofs.Q0
open Go Go.RowKit
attribute [local irreducible] XS XC XA AX AO A6 AZ AY A7 Ab AV SE
structure Mn where
 b:Int
 a:Int
 w:Int
 n:Int
deriving DecidableEq
abbrev Mn.cells (m:Mn):List Value:=[.int .u64 m.b,.int .i64 (m.a / 18446744073709551616),.int .u64 (m.a % 18446744073709551616),.int .u64 m.w,.int .i64 m.n]
def mv (m:Mn):Value := .agg #[.int .u64 m.b,.int .i64 (m.a / 18446744073709551616),.int .u64 (m.a % 18446744073709551616),.int .u64 m.w,.int .i64 m.n]
def Mn.In (m:Mn):Prop:=BV m.b∧A9 m.a∧BV m.w∧In64 m.n
instance (m:Mn):Decidable m.In:=by unfold Mn.In;infer_instance
def Mn.zero:Mn:=⟨0,0,0,0⟩
def Mn.right (m:Mn):Bool:=bif decide (m.n=0) then decide (m.w=0) && decide (m.a=0) else decide (0 < m.n) && decide (m.n≤32) && decide (m.n≤m.w) && decide (m.w≤m.n*1048576)
theorem aA6 (x:Int):(Ba (.int .i64 (x / 18446744073709551616)) (.int .i64 0) && Ba (.int .u64 (x % 18446744073709551616)) (.int .u64 0))=decide (x=0):=by
 show ((x / 18446744073709551616 == 0) && (x % 18446744073709551616 == 0))=_
 by_cases h:x=0
 ·subst h;decide
 ·rw [decide_eq_false h]
  cases h1:(x / 18446744073709551616 == 0)
  ·rfl
  ·cases h2:(x % 18446744073709551616 == 0)
   ·rfl
   ·simp only [beq_iff_eq] at h1 h2
    omega
theorem Ey (m:Mn) (w0:World):AM Tryz.prog 85 #[mv m] w0 fun v w'=>v = .bool m.right∧AA [] w0 w':=by
 have hs:=St.nil w0
 refine AQ Tryz.func85 Tryz.ntmps85 (k:=?_)
 repeat' (first|refine Sf ?_|(refine bx hs (k:=?_);intro b w hz hs)|((with_reducible apply BI);exact rfl;exact rfl;intro c hc;(fail_if_success have:true=c:=hc);(fail_if_success have:false=c:=hc);cases c)|refine Av rfl (fun hc=>?_) fun hc=>?_|fail)
 all_goals (refine AF ?_)
 all_goals refine ⟨?_,hs.AD rfl⟩
 all_goals clear hs
 all_goals unfold Mn.right packed
 all_goals try rw [aA6]
 all_goals simp only [wrap_u64] at *
 ·rw [decide_eq_true ‹m.n=0›,cond_true];simp only [beq_eq_false_iff_ne,ne_eq] at hc;rw [decide_eq_false hc];rfl
 ·rw [decide_eq_true ‹m.n=0›,cond_true];simp only [beq_iff_eq] at hc;rw [decide_eq_true hc];rfl
 ·rw [decide_eq_false ‹¬ m.n=0›,cond_false,hc];rfl
 ·rw [decide_eq_false ‹¬ m.n=0›,cond_false,‹decide (0 < m.n)=true›,hc];rfl
 ·have h1:=of_decide_eq_true ‹decide (0 < m.n)=true›
  have h2:=of_decide_eq_true ‹decide (m.n≤32)=true›
  rw [show m.n % 18446744073709551616=m.n by omega] at hc
  rw [decide_eq_false ‹¬ m.n=0›,cond_false,‹decide (0 < m.n)=true›,‹decide (m.n≤32)=true›,hc];rfl
 ·have h1:=of_decide_eq_true ‹decide (0 < m.n)=true›
  have h2:=of_decide_eq_true ‹decide (m.n≤32)=true›
  rw [show m.n % 18446744073709551616=m.n by omega] at hc
  rw [decide_eq_false ‹¬ m.n=0›,cond_false,‹decide (0 < m.n)=true›,‹decide (m.n≤32)=true›,hc,show m.n % 18446744073709551616*1048576 % 18446744073709551616=m.n*1048576 by omega];rfl
theorem Cj {m:Mn}:m.right=true↔(m.n=0∧m.w=0∧m.a=0)∨(0 < m.n∧m.n≤32∧m.n≤m.w∧m.w≤m.n*1048576):=by
 unfold Mn.right
 by_cases h:m.n=0
 ·rw [decide_eq_true h,cond_true];simp;omega
 ·rw [decide_eq_false h,cond_false];simp;omega
def pZ (o:Option Mn):Value := .tuple #[mv (o.getD .zero),.bool o.isSome]
theorem E0 {p:Pt}:p.right=true↔1≤p.w∧p.w≤1048576∧p.r < p.w:=by
 unfold Pt.right;rw [Bool.and_eq_true,Ef,decide_eq_true_eq,and_assoc]
def EF (m:Mn) (p:Pt):Option Mn:=if m.right=true∧p.right=true∧m.n≠32∧A9 (m.a+dist p m.b) then some ⟨m.b,m.a+dist p m.b,m.w+p.w,m.n+1⟩ else none
theorem T7 {m:Mn} {p:Pt} {o:Mn} (hm:m.In) (h:EF m p=some o):o.In:=by
 unfold EF at h
 split at h
 ·rename_i hc
  cases h
  obtain ⟨h1,h2,h3,h4⟩:=hc
  have h1:=Cj.1 h1
  have h2:=E0.1 h2
  refine ⟨hm.1,h4,?_,?_⟩
  ·show 0≤m.w+p.w∧m.w+p.w < 18446744073709551616;omega
  ·show -9223372036854775808≤m.n+1∧m.n+1 < 9223372036854775808;omega
 ·cases h
theorem Wm (m:Mn) (p:Pt) (hm:m.In) (hp':p.In) (w0:World):AM Tryz.prog 223 #[mv m,pv p] w0 fun v w'=>v=pZ (EF m p)∧AA [] w0 w':=by
 have hs:=St.nil w0
 refine AQ Tryz.func223 Tryz.ntmps223 (k:=?_)
 repeat' (first|refine Sa ?_|(refine al hs (k:=?_);intro b w hz hs)|(refine bx hs (k:=?_);intro b w hz hs)|fail)
 refine AW hs (h:=by exact Ey m _) (k:=?_);intro w' ho hs;repeat' (first|refine Se ?_|(refine AU hs (k:=?_);intro w hs)|((with_reducible apply BI);exact rfl;exact rfl;intro c hc;(fail_if_success have:true=c:=hc);(fail_if_success have:false=c:=hc);cases c)|fail)
 ·refine AW hs (h:=by exact FE p _) (k:=?_);intro w' ho hs;repeat' (first|refine Se ?_|(refine AU hs (k:=?_);intro w hs)|((with_reducible apply BI);exact rfl;exact rfl;intro c hc;(fail_if_success have:true=c:=hc);(fail_if_success have:false=c:=hc);cases c)|refine Av rfl (fun hc=>?_) fun hc=>?_|fail)
  ·refine AF ?_
   refine ⟨?_,hs.AD rfl⟩
   have:EF m p=none:=by unfold EF;rw [if_neg (fun h=>h.2.2.1 ‹_›)]
   rw [this];rfl
  ·refine dr [] hs (k:=?_);intro hX w hs
   refine tks 0 5 ?_
   refine GY 10 6 hs (k:=?_);intro f X w hp;have hs:=hp.st
   apply BG 5 10 (f:=f) (X:=X) hX hp;exact rfl;exact rfl;(apply AR AI;exact rfl);kernel_rfl;kernel_rfl;kernel_rfl;kernel_rfl;(intro X Y;(repeat (first | exact A4 | refine A3 ?_ (by exact rfl))));(intro w' hs;first|exact AH hs.hold|exact AH hs.hold.tail|exact A8 rfl);intro f X w hp;have hs:=hp.st
   refine cl (h:=by exact Mx p m.b hp' _) (k:=?_)
   rintro v w' ⟨rfl,ho⟩;replace hp:=hp.only ho;replace hs:=hp.st;refine Jb ?_
   refine dn (k:=?_)
   apply BG 6 10 (f:=f) (X:=X) hX hp;exact rfl;exact rfl;(apply AR AI;exact rfl);kernel_rfl;kernel_rfl;kernel_rfl;kernel_rfl;(intro X Y;(repeat (first | exact A4 | refine A3 ?_ (by exact rfl))));(intro w' hs;first|exact AH hs.hold|exact AH hs.hold.tail|exact A8 rfl);intro f X w hp;have hs:=hp.st
   refine cl (h:=by exact bT m.a (dist p m.b) hm.2.1 (dist_in hp' _) _) (k:=?_)
   rintro v w' ⟨rfl,ho⟩;replace hp:=hp.only ho;replace hs:=hp.st;refine Jb ?_
   refine dn (k:=?_)
   refine tk 7 hX (hc:=by cases f <;> kernel_rfl) (k:=?_)
   refine tk 8 hX (hc:=by cases f <;> kernel_rfl) (k:=?_)
   refine tk 9 hX (hc:=by cases f <;> kernel_rfl) (k:=?_)
   apply B9 10 (f:=f) (X:=X) hX hp;exact rfl;(apply AR AI;exact rfl);kernel_rfl;kernel_rfl;(intro X Y;(repeat (first | exact A4 | refine A3 ?_ (by exact rfl))));(intro w' hs;first|exact AH hs.hold|exact AH hs.hold.tail|exact A8 rfl);intro b w hI hs
   refine dt 11 hX (k:=?_)
   repeat' (first|refine Nx.h ?_|(refine AU hs (k:=?_);intro w hs)|fail)
   refine dn (k:=?_)
   refine tk 12 hX (k:=?_)
   refine en (k:=?_)
   repeat' (first|refine Sa ?_|(refine AU hs (k:=?_);intro w hs)|refine xc_cond rfl (fun hc=>?_) fun hc=>?_|fail)
   ·refine AF ?_
    refine ⟨?_,hs.AD rfl⟩
    have h4:¬ A9 (m.a+dist p m.b):=by simpa using hc
    have:EF m p=none:=by unfold EF;rw [if_neg (fun h=>h4 h.2.2.2)]
    rw [this];rfl
   ·refine AF ?_
    refine ⟨?_,hs.AD rfl⟩
    have h4:A9 (m.a+dist p m.b):=by simpa using hc
    have h1:m.right=true:=by simpa using ‹(!m.right)=false›
    have h2:p.right=true:=by simpa using ‹(!p.right)=false›
    have:EF m p=some ⟨m.b,m.a+dist p m.b,m.w+p.w,m.n+1⟩:=by unfold EF;rw [if_pos ⟨h1,h2,‹_›,h4⟩]
    have h5:=Cj.1 h1
    have h6:=E0.1 h2
    have e1:tot (m.a+dist p m.b)=m.a+dist p m.b:=if_pos h4
    have e2:IntKind.u64.wrap (m.w+IntKind.u64.wrap p.w)=m.w+p.w:=by simp only [wrap_u64];omega
    have e3:IntKind.i64.wrap (m.n+1)=m.n+1:=by simp only [wrap_i64];omega
    rw [this,e1,e2,e3];rfl
  ·refine AF ?_
   refine ⟨?_,hs.AD rfl⟩
   have h2:p.right=false:=by simpa using hc
   have:EF m p=none:=by unfold EF;rw [if_neg (fun h=>by rw [h2] at h;cases h.2.1)]
   rw [this];rfl
 ·refine AF ?_
  refine ⟨?_,hs.AD rfl⟩
  have h2:m.right=false:=by simpa using hc
  have:EF m p=none:=by unfold EF;rw [if_neg (fun h=>by rw [h2] at h;cases h.1)]
  rw [this];rfl
def F4 (m:Mn) (p:Pt):Mn:=⟨m.b,m.a - dist p m.b,m.w - p.w,m.n - 1⟩
def Fi (m:Mn) (p:Pt):Option Mn:=if m.right=true∧p.right=true∧m.n≠0∧p.w≤m.w∧A9 (m.a - dist p m.b)∧(F4 m p).right=true then some (F4 m p) else none
theorem sL {m:Mn} {p:Pt} {o:Mn} (hm:m.In) (h:Fi m p=some o):o.In:=by
 unfold Fi at h
 split at h
 ·rename_i hc
  cases h
  obtain ⟨h1,h2,h3,h4,h5,h6⟩:=hc
  have h1:=Cj.1 h1
  have h2:=E0.1 h2
  refine ⟨hm.1,h5,?_,?_⟩
  ·show 0≤m.w - p.w∧m.w - p.w < 18446744073709551616;omega
  ·show -9223372036854775808≤m.n - 1∧m.n - 1 < 9223372036854775808;omega
 ·cases h
theorem iF (m:Mn) (p:Pt) (hm:m.In) (hp':p.In) (w0:World):AM Tryz.prog 220 #[mv m,pv p] w0 fun v w'=>v=pZ (Fi m p)∧AA [] w0 w':=by
 have hs:=St.nil w0
 refine AQ Tryz.func220 Tryz.ntmps220 (k:=?_)
 repeat' (first|refine Sa ?_|(refine al hs (k:=?_);intro b w hz hs)|(refine bx hs (k:=?_);intro b w hz hs)|fail)
 refine AW hs (h:=by exact Ey m _) (k:=?_);intro w' ho hs;repeat' (first|refine Se ?_|(refine AU hs (k:=?_);intro w hs)|((with_reducible apply BI);exact rfl;exact rfl;intro c hc;(fail_if_success have:true=c:=hc);(fail_if_success have:false=c:=hc);cases c)|fail)
 ·refine AW hs (h:=by exact FE p _) (k:=?_);intro w' ho hs;repeat' (first|refine Se ?_|(refine AU hs (k:=?_);intro w hs)|((with_reducible apply BI);exact rfl;exact rfl;intro c hc;(fail_if_success have:true=c:=hc);(fail_if_success have:false=c:=hc);cases c)|refine Av rfl (fun hc=>?_) fun hc=>?_|fail)
  ·simp only [wrap_u64] at hc
   have hU:=hp'.2.2
   unfold FW at hU
   refine AF ?_
   refine ⟨?_,hs.AD rfl⟩
   have:Fi m p=none:=by unfold Fi;rw [if_neg (fun h=>by have:=h.2.2.2.1;omega)]
   rw [this];rfl
  ·have h1:m.right=true:=by simpa using ‹(!m.right)=false›
   have h2:p.right=true:=by simpa using ‹(!p.right)=false›
   have h3:m.n≠0:=by simpa using ‹(m.n == 0)=false›
   have hU:=hp'.2.2
   have e0:=LB hU
   have MT:p.w≤m.w:=by rw [e0] at hc;omega
   have h5:=Cj.1 h1
   have h6:=E0.1 h2
   refine dr [] hs (k:=?_);intro hX w hs
   refine tks 0 5 ?_
   refine GY 10 6 hs (k:=?_);intro f X w hp;have hs:=hp.st
   apply BG 5 10 (f:=f) (X:=X) hX hp;exact rfl;exact rfl;(apply AR AI;exact rfl);kernel_rfl;kernel_rfl;kernel_rfl;kernel_rfl;(intro X Y;(repeat (first | exact A4 | refine A3 ?_ (by exact rfl))));(intro w' hs;first|exact AH hs.hold|exact AH hs.hold.tail|exact A8 rfl);intro f X w hp;have hs:=hp.st
   refine cl (h:=by exact Mx p m.b hp' _) (k:=?_)
   rintro v w' ⟨rfl,ho⟩;replace hp:=hp.only ho;replace hs:=hp.st;refine Jb ?_
   refine dn (k:=?_)
   apply BG 6 10 (f:=f) (X:=X) hX hp;exact rfl;exact rfl;(apply AR AI;exact rfl);kernel_rfl;kernel_rfl;kernel_rfl;kernel_rfl;(intro X Y;(repeat (first | exact A4 | refine A3 ?_ (by exact rfl))));(intro w' hs;first|exact AH hs.hold|exact AH hs.hold.tail|exact A8 rfl);intro f X w hp;have hs:=hp.st
   refine cl (h:=by exact Um m.a (dist p m.b) hm.2.1 (dist_in hp' _) _) (k:=?_)
   rintro v w' ⟨rfl,ho⟩;replace hp:=hp.only ho;replace hs:=hp.st;refine Jb ?_
   refine dn (k:=?_)
   refine tk 7 hX (hc:=by cases f <;> kernel_rfl) (k:=?_)
   refine tk 8 hX (hc:=by cases f <;> kernel_rfl) (k:=?_)
   refine tk 9 hX (hc:=by cases f <;> kernel_rfl) (k:=?_)
   apply B9 10 (f:=f) (X:=X) hX hp;exact rfl;(apply AR AI;exact rfl);kernel_rfl;kernel_rfl;(intro X Y;(repeat (first | exact A4 | refine A3 ?_ (by exact rfl))));(intro w' hs;first|exact AH hs.hold|exact AH hs.hold.tail|exact A8 rfl);intro b w hI hs
   refine dt 11 hX (k:=?_)
   repeat' (first|refine Nx.h ?_|(refine AU hs (k:=?_);intro w hs)|fail)
   refine dn (k:=?_)
   refine tk 12 hX (k:=?_)
   refine en (k:=?_)
   repeat' (first|refine Se ?_|(refine AU hs (k:=?_);intro w hs)|(refine al hs (k:=?_);intro b w hz hs)|((with_reducible apply BI);exact rfl;exact rfl;intro c hc;(fail_if_success have:true=c:=hc);(fail_if_success have:false=c:=hc);cases c)|fail)
   ·have h4:A9 (m.a - dist p m.b):=by simpa using hc
    have e1:tot (m.a - dist p m.b)=m.a - dist p m.b:=if_pos h4
    have e2:IntKind.u64.wrap (m.w - IntKind.u64.wrap p.w)=m.w - p.w:=by simp only [wrap_u64];omega
    have e3:IntKind.i64.wrap (m.n - 1)=m.n - 1:=by simp only [wrap_i64];omega
    refine cl (h:=by exact Ey ⟨m.b,tot (m.a - dist p m.b),IntKind.u64.wrap (m.w - IntKind.u64.wrap p.w),IntKind.i64.wrap (m.n - 1)⟩ _) (k:=?_)
    rw [show (⟨m.b,tot (m.a - dist p m.b),IntKind.u64.wrap (m.w - IntKind.u64.wrap p.w),IntKind.i64.wrap (m.n - 1)⟩:Mn)=F4 m p by rw [e1,e2,e3];rfl]
    rintro v w' ⟨rfl,ho⟩;replace hs:=hs.AL ho;repeat' (first|refine Sa ?_|(refine AU hs (k:=?_);intro w hs)|refine xc_cond rfl (fun hc=>?_) fun hc=>?_|fail)
    ·refine AF ?_
     refine ⟨?_,hs.AD rfl⟩
     have h7:(F4 m p).right=false:=by simpa using hc
     have:Fi m p=none:=by unfold Fi;rw [if_neg (fun h=>by rw [h7] at h;cases h.2.2.2.2.2)]
     rw [this];rfl
    ·refine AF ?_
     refine ⟨?_,hs.AD rfl⟩
     have h7:(F4 m p).right=true:=by simpa using hc
     have:Fi m p=some (F4 m p):=by unfold Fi;rw [if_pos ⟨h1,h2,h3,MT,h4,h7⟩]
     rw [this,e1,e2,e3];rfl
   ·refine AF ?_
    refine ⟨?_,hs.AD rfl⟩
    have h4:¬ A9 (m.a - dist p m.b):=by simpa using hc
    have:Fi m p=none:=by unfold Fi;rw [if_neg (fun h=>h4 h.2.2.2.2.1)]
    rw [this];rfl
  ·refine AF ?_
   refine ⟨?_,hs.AD rfl⟩
   have:Fi m p=none:=by unfold Fi;rw [if_neg (fun h=>h.2.2.1 (by simpa using hc))]
   rw [this];rfl
  ·refine AF ?_
   refine ⟨?_,hs.AD rfl⟩
   have:Fi m p=none:=by unfold Fi;rw [if_neg (fun h=>absurd h.2.1 (by simpa using hc))]
   rw [this];rfl
 ·refine AF ?_
  refine ⟨?_,hs.AD rfl⟩
  have h2:m.right=false:=by simpa using hc
  have:Fi m p=none:=by unfold Fi;rw [if_neg (fun h=>by rw [h2] at h;cases h.1)]
  rw [this];rfl
def Ik (m:Mn) (t:Int):Option Mn:=if m.right=true∧A9 (m.a - m.w*sn t m.b) then some ⟨t,m.a - m.w*sn t m.b,m.w,m.n⟩ else none
theorem tI {m:Mn} {t:Int} {o:Mn} (hm:m.In) (ht:BV t) (h:Ik m t=some o):o.In:=by
 unfold Ik at h
 split at h
 ·rename_i hc
  cases h
  exact ⟨ht,hc.2,hm.2.2⟩
 ·cases h
theorem aO (m:Mn) (t:Int) (hm:m.In) (w0:World):AM Tryz.prog 238 #[mv m,.int .u64 t] w0 fun v w'=>v=pZ (Ik m t)∧AA [] w0 w':=by
 have hs:=St.nil w0
 refine AQ Tryz.func238 Tryz.ntmps238 (k:=?_)
 repeat' (first|refine Sa ?_|(refine al hs (k:=?_);intro b w hz hs)|(refine bx hs (k:=?_);intro b w hz hs)|fail)
 refine AW hs (h:=by exact Ey m _) (k:=?_);intro w' ho hs;repeat' (first|refine Sa ?_|(refine AU hs (k:=?_);intro w hs)|refine xc_cond rfl (fun hc=>?_) fun hc=>?_|fail)
 ·refine AF ?_
  refine ⟨?_,hs.AD rfl⟩
  have h2:m.right=false:=by simpa using hc
  have:Ik m t=none:=by unfold Ik;rw [if_neg (fun h=>by rw [h2] at h;cases h.1)]
  rw [this];rfl
 ·have h1:m.right=true:=by simpa using hc
  have h5:=Cj.1 h1
  have h6:=sn_rng t m.b
  have h7:=mul_rng (w:=m.w) (s:=sn t m.b) (W:=33554432) (S:=9223372036854775808) hm.2.2.1.1 om om om
  have hU:=hm.2.2.1
  refine dr [] hs (k:=?_);intro hX w hs
  refine tks 0 2 ?_
  refine tks 3 3 ?_
  refine GY 11 6 hs (k:=?_);intro f X w hp;have hs:=hp.st
  apply BG 2 11 (f:=f) (X:=X) hX hp;exact rfl;exact rfl;(apply AR AI;exact rfl);kernel_rfl;kernel_rfl;kernel_rfl;kernel_rfl;(intro X Y;(repeat (first | exact A4 | refine A3 ?_ (by exact rfl))));(intro w' hs;first|exact AH hs.hold|exact AH hs.hold.tail|exact A8 rfl);intro f X w hp;have hs:=hp.st
  refine cl (h:=by exact P3 m.w hU.1 hU.2 _) (k:=?_)
  rintro v w' ⟨rfl,ho⟩;replace hp:=hp.only ho;replace hs:=hp.st;refine Jb ?_
  refine dn (k:=?_)
  apply BG 6 11 (f:=f) (X:=X) hX hp;exact rfl;exact rfl;(apply AR AI;exact rfl);kernel_rfl;kernel_rfl;kernel_rfl;kernel_rfl;(intro X Y;(repeat (first | exact A4 | refine A3 ?_ (by exact rfl))));(intro w' hs;first|exact AH hs.hold|exact AH hs.hold.tail|exact A8 rfl);intro f X w hp;have hs:=hp.st
  refine cl (h:=by exact I5 t m.b _) (k:=?_)
  rintro v w' ⟨rfl,ho⟩;replace hp:=hp.only ho;replace hs:=hp.st;refine Jb ?_
  refine dn (k:=?_)
  apply BG 7 11 (f:=f) (X:=X) hX hp;exact rfl;exact rfl;(apply AR AI;exact rfl);kernel_rfl;kernel_rfl;kernel_rfl;kernel_rfl;(intro X Y;(repeat (first | exact A4 | refine A3 ?_ (by exact rfl))));(intro w' hs;first|exact AH hs.hold|exact AH hs.hold.tail|exact A8 rfl);intro f X w hp;have hs:=hp.st
  refine cl (h:=by exact Wy m.w (sn t m.b) (by unfold A9;omega) om om (by unfold A9;omega) _) (k:=?_)
  rintro v w' ⟨rfl,ho⟩;replace hp:=hp.only ho;replace hs:=hp.st;refine Jb ?_
  refine dn (k:=?_)
  refine tk 8 hX (hc:=by cases f <;> kernel_rfl) (k:=?_)
  refine tk 9 hX (hc:=by cases f <;> kernel_rfl) (k:=?_)
  refine tk 10 hX (hc:=by cases f <;> kernel_rfl) (k:=?_)
  apply B9 11 (f:=f) (X:=X) hX hp;exact rfl;(apply AR AI;exact rfl);kernel_rfl;kernel_rfl;(intro X Y;(repeat (first | exact A4 | refine A3 ?_ (by exact rfl))));(intro w' hs;first|exact AH hs.hold|exact AH hs.hold.tail|exact A8 rfl);intro b w hI hs
  refine dt 12 hX (k:=?_)
  repeat' (first|refine Nx.h ?_|(refine AU hs (k:=?_);intro w hs)|fail)
  refine dn (k:=?_)
  refine tk 13 hX (k:=?_)
  refine en (k:=?_)
  refine Ja ?_
  refine AW hs (h:=by exact Um m.a (m.w*sn t m.b) hm.2.1 (by unfold A9;omega) _) (k:=?_);intro w' ho hs;repeat' (first|refine Sa ?_|(refine AU hs (k:=?_);intro w hs)|(refine al hs (k:=?_);intro b w hz hs)|refine xc_cond rfl (fun hc=>?_) fun hc=>?_|fail)
  ·refine AF ?_
   refine ⟨?_,hs.AD rfl⟩
   have h4:¬ A9 (m.a - m.w*sn t m.b):=by simpa using hc
   have:Ik m t=none:=by unfold Ik;rw [if_neg (fun h=>h4 h.2)]
   rw [this];rfl
  ·refine AF ?_
   refine ⟨?_,hs.AD rfl⟩
   have h4:A9 (m.a - m.w*sn t m.b):=by simpa using hc
   have:Ik m t=some ⟨t,m.a - m.w*sn t m.b,m.w,m.n⟩:=by unfold Ik;rw [if_pos ⟨h1,h4⟩]
   have e1:tot (m.a - m.w*sn t m.b)=m.a - m.w*sn t m.b:=if_pos h4
   rw [this,e1];rfl
def I3 (m:Mn):Option Int:=if m.right=true∧m.n≠0∧In64 (m.a / m.w) then some (lat m.b (m.a / m.w)) else none
def tmV (o:Option Int):Value := .tuple #[.int .u64 (o.getD 0),.bool o.isSome]
theorem Om (m:Mn) (hm:m.In) (w0:World):AM Tryz.prog 45 #[mv m] w0 fun v w'=>v=tmV (I3 m)∧AA [] w0 w':=by
 have hs:=St.nil w0
 refine AQ Tryz.func45 Tryz.ntmps45 (k:=?_)
 repeat' (first|refine Sa ?_|(refine bx hs (k:=?_);intro b w hz hs)|fail)
 refine AW hs (h:=by exact Ey m _) (k:=?_);intro w' ho hs;repeat' (first|refine Se ?_|((with_reducible apply BI);exact rfl;exact rfl;intro c hc;(fail_if_success have:true=c:=hc);(fail_if_success have:false=c:=hc);cases c)|refine Av rfl (fun hc=>?_) fun hc=>?_|fail)
 ·refine AF ?_
  refine ⟨?_,hs.AD rfl⟩
  have:I3 m=none:=by unfold I3;rw [if_neg (fun h=>h.2.1 ‹_›)]
  rw [this];rfl
 ·have h1:m.right=true:=by simpa using ‹(!m.right)=false›
  have h5:=Cj.1 h1
  have hU:=hm.2.2.1
  refine AW hs (h:=by exact Nw m.a m.w hm.2.1 om hU.2 _) (k:=?_);intro w' ho hs;repeat' (first|refine Sa ?_|(refine AU hs (k:=?_);intro w hs)|(refine al hs (k:=?_);intro b w hz hs)|fail)
  refine AW hs (h:=by exact tH (m.a / m.w) (div_in hm.2.1 om) _) (k:=?_);intro w' ho hs;repeat' (first|refine Sa ?_|refine xc_cond rfl (fun hc=>?_) fun hc=>?_|fail)
  ·refine AF ?_
   refine ⟨?_,hs.AD rfl⟩
   have h4:¬ In64 (m.a / m.w):=by simpa using hc
   have:I3 m=none:=by unfold I3;rw [if_neg (fun h=>h4 h.2.2)]
   rw [this];rfl
  ·have h4:In64 (m.a / m.w):=by simpa using hc
   refine AW hs (h:=by exact Wf m.b (sml (m.a / m.w)) _) (k:=?_);intro w' ho hs;refine Jc ?_
   refine AF ?_
   refine ⟨?_,hs.AD rfl⟩
   have:I3 m=some (lat m.b (m.a / m.w)):=by unfold I3;rw [if_pos ⟨h1,‹_›,h4⟩]
   have e1:sml (m.a / m.w)=m.a / m.w:=if_pos h4
   rw [this,e1];rfl
 ·refine AF ?_
  refine ⟨?_,hs.AD rfl⟩
  have h2:m.right=false:=by simpa using hc
  have:I3 m=none:=by unfold I3;rw [if_neg (fun h=>by rw [h2] at h;cases h.1)]
  rw [this];rfl
theorem Nv:A9 0:=by decide
theorem mW:BV 0:=by decide
theorem SN:In64 0:=by decide
def LC:Mn→List Pt→Option Mn
 | m,[]=>some m
 | m,p :: ps=>(EF m p).bind fun m=>LC m ps
def ofM (base:Int) (ps:List Pt):Option Mn:=LC ⟨base,0,0,0⟩ ps
theorem VZ:∀ (l:List Pt) (m:Mn) (p:Pt),LC m (l ++ [p])=(LC m l).bind fun m=>EF m p
 | [],m,p=>by
   simp only [List.nil_append,LC,Option.bind_some]
   cases EF m p <;> rfl
 | q :: l,m,p=>by
   simp only [List.cons_append,LC]
   cases EF m q with
   | none=>rfl
   | some m'=>exact VZ l m' p
theorem XK:∀ (l r:List Pt) (m:Mn),LC m l=none→LC m (l ++ r)=none
 | [],r,m,h=>by simp [LC] at h
 | q :: l,r,m,h=>by
   simp only [List.cons_append,LC] at h ⊢
   cases h1:EF m q with
   | none=>rfl
   | some m'=>rw [h1] at h;exact XK l r m' h
theorem Ht (base:Int) (ps:List Pt) (sl:Value) (hbase:BV base) (hps:∀ p∈ps,p.In) (hlen:ps.length≤9223372036854775807) (w0:World) (hP:Wn w0 sl ps) :
 AM Tryz.prog 218 #[.int .u64 base,sl] w0 fun v w'=>v=pZ (ofM base ps)∧AA [] w0 w':=by
 obtain ⟨ad,cap,rfl,hD⟩:=hP
 rw [List.length_map] at *
 have hs:=St.nil w0
 refine AQ Tryz.func218 Tryz.ntmps218 (k:=?_)
 refine Ag ?_
 refine Aq ?_
 refine al hs (k:=?_);intro b4 w hz hs
 refine Jc ?_
 refine Aq ?_
 refine vs (k:=?_)
 refine vs (k:=?_)
 refine al hs (k:=?_);intro b6 w hz hs
 repeat' (first|refine Sa ?_|(refine AU hs (k:=?_);intro w hs)|fail)
 refine BH (fun (_:Mn)=>[(4,.pointer (some ⟨b4,0,none⟩)),(6,.pointer (some ⟨b6,0,none⟩))]) (fun m w=>ofM base ps=some m∧St w0 D0 [(b6,.cells m.cells.toArray 108,true),(b4,.cells Mn.zero.cells.toArray 108,true)] w) ?_ ?_
 ·refine BF (fun (s:Nat × Mn)=>[(4,.pointer (some ⟨b4,0,none⟩)),(6,.pointer (some ⟨b6,0,none⟩)),(13,.slice ad ps.length cap),(14,.int .i64 (ps.length:Nat)),(15,.int .i64 (s.1:Nat))])
   (fun s w=>s.1≤ps.length∧ofM base (ps.take s.1)=some s.2∧s.2.In∧St w0 D0 [(b6,.cells s.2.cells.toArray 108,true),(b4,.cells Mn.zero.cells.toArray 108,true)] w)
   (fun s=>ps.length - s.1) (0,⟨base,0,0,0⟩) Aa ⟨Nat.zero_le _,rfl,⟨hbase,Nv,mW,SN⟩,hs⟩ fun s env w ⟨hi,ho,hin,hs⟩=>?_
  obtain ⟨i,m⟩:=s
  simp only at hi ho hin
  repeat' (first|refine Sa ?_|refine Av rfl (fun hc=>?_) fun hc=>?_|fail)
  ·have hlt:i < ps.length:=by omega
   obtain ⟨b,off,cs,fz,rfl,_,hb,hcs⟩:=hD (fun h=>by have:=congrArg List.length h;rw [List.length_map,List.length_nil] at this;omega)
   have hpk:=hcs i (Pt.cells ps[i]) (by rw [List.getElem?_map,List.getElem?_eq_getElem hlt];rfl)
   have Mw:=hps ps[i] (List.getElem_mem hlt)
   have ei:=DH hlt hlen
   have N7:ofM base (ps.take (i+1))=EF m ps[i]:=by rw [CS hlt];unfold ofM at ho ⊢;rw [VZ,ho];rfl
   have hno:EF m ps[i]=none→ofM base ps=none:=fun h=>by
    have:=XK (ps.take (i+1)) (ps.drop (i+1)) ⟨base,0,0,0⟩ (by rw [show LC ⟨base,0,0,0⟩ (ps.take (i+1))=ofM base (ps.take (i+1)) from rfl,N7,h])
    rwa [List.take_append_drop] at this
   generalize ps[i]=p at *
   refine ix (h0:=(by omega)) (h1:=(by omega)) (k:=?_)
   refine JQ ((hs.AD rfl).block hb (by simp)) hpk (k:=?_)
   refine al hs (k:=?_);intro b8 w hz hs
   repeat' (first|refine Sa ?_|(refine AU hs (k:=?_);intro w hs)|fail)
   refine cl (h:=by exact Wm m p hin Mw _) (k:=?_)
   cases ha:EF m p with
   | none =>
     rintro v w' ⟨rfl,ho⟩;replace hs:=hs.AL ho;repeat' (first|refine Sc ?_|(refine AU hs (k:=?_);intro w hs)|(refine al hs (k:=?_);intro b w hz hs)|fail)
     refine AF ?_
     refine ⟨?_,hs.AD rfl⟩
     rw [hno ha];rfl
   | some m' =>
     rintro v w' ⟨rfl,ho⟩;replace hs:=hs.AL ho;repeat' (first|refine Sd ?_|(refine AU hs (k:=?_);intro w hs)|(refine al hs (k:=?_);intro b w hz hs)|fail)
     rw [ha] at N7
     exact A2 (i+1,m') (by show ps.length - (i+1) < ps.length - i;omega) (by (repeat (first | exact Ac | (apply A5;first | exact rfl | exact congrArg (Value.int .i64) ei)))) ⟨by show i+1≤ps.length;omega,N7,T7 hin ha,hs.Bu.Bu⟩
  ·have MT:¬ ((i:Int) < ps.length):=hc
   have e:i=ps.length:=by omega
   rw [e,List.take_length] at ho
   exact Am m Aa ⟨ho,hs⟩
 ·rintro m env w ⟨ho,hs⟩
  repeat' (first|refine Sa ?_|(refine AU hs (k:=?_);intro w hs)|fail)
  refine AF ?_
  refine ⟨?_,hs.AD rfl⟩
  rw [ho];rfl
end Go.Proofs.Q0
namespace Go.Proofs.Q0
def CY (b:Int):List It→Int
 | []=>0
 | a :: l=>dist a.p b+CY b l
def CG:List It→Int
 | []=>0
 | a :: l=>a.p.w+CG l
theorem iA {b:Int} {l l':List It} (h:l.Perm l'):CY b l=CY b l':=by
 induction h with
 | nil=>rfl
 | cons _ _ ih=>simp only [CY,ih]
 | swap _ _ _=>simp only [CY];omega
 | trans _ _ h1 h2=>rw [h1,h2]
theorem jI {l l':List It} (h:l.Perm l'):CG l=CG l':=by
 induction h with
 | nil=>rfl
 | cons _ _ ih=>simp only [CG,ih]
 | swap _ _ _=>simp only [CG];omega
 | trans _ _ h1 h2=>rw [h1,h2]
theorem sum_rng {b lo hi:Int}:∀ {l:List It},(∀ x∈l,x.In∧x.right=true∧lo≤sn x.p.t b∧sn x.p.t b≤hi)→CG l*lo≤CY b l∧CY b l+l.length≤CG l*(hi+1)∧(l.length:Int)≤CG l∧CG l≤l.length*1048576
 | [],_=>by simp [CY,CG]
 | a :: l,h=>by
   obtain ⟨h1,h2,h3,h4⟩:=sum_rng fun x hx=>h x (List.mem_cons_of_mem _ hx)
   obtain ⟨k1,k2,k3,k4⟩:=h a List.mem_cons_self
   obtain ⟨_,_,_,_,_,_,⟨w1,w2,w3,w4⟩,_⟩:=iright_all k1 k2
   have m1:a.p.w*lo≤a.p.w*sn a.p.t b:=Int.mul_le_mul_of_nonneg_left k3 om
   have m2:a.p.w*sn a.p.t b≤a.p.w*hi:=Int.mul_le_mul_of_nonneg_left k4 om
   simp only [CY,CG,dist,List.length_cons,Int.add_mul,Int.mul_add,Int.mul_one] at *
   omega
theorem K8.wV {b lo:Int} {x:It} (h:K8 b lo x) (hm:I4 lo):x.In∧x.right=true∧lo≤sn x.p.t b∧sn x.p.t b≤lo+4611686018427387904:=⟨h.isin,h.right,h.low,(h.dead hm).2.2⟩
structure K7 (m:Mn) (l:List It):Prop where
 a:m.a=CY m.b l
 w:m.w=CG l
 n:m.n=l.length
theorem K7.perm {m:Mn} {l l':List It} (h:K7 m l) (p:l.Perm l'):K7 m l':=⟨h.a.trans (iA p),h.w.trans (jI p),by rw [h.n,p.length_eq]⟩
def C7 (b lo:Int) (l:List It):Prop:=I4 lo∧l.length≤32∧∀ x∈l,K8 b lo x
theorem C7.sum {b lo:Int} {l:List It} (h:C7 b lo l):CG l*lo≤CY b l∧CY b l+l.length≤CG l*(lo+4611686018427387904+1)∧(l.length:Int)≤CG l∧CG l≤l.length*1048576:=sum_rng fun x hx=>(h.2.2 x hx).wV h.1
theorem C7.inW {b lo:Int} {l:List It} (h:C7 b lo l):A9 (CY b l):=by
 obtain ⟨h1,h2,h3,h4⟩:=h.sum
 obtain ⟨⟨m1,m2⟩,hl,_⟩:=h
 have k1:CG l*(-4611686018427387904)≤CG l*lo:=Int.mul_le_mul_of_nonneg_left m1 om
 have k2:CG l*(lo+4611686018427387904+1)≤CG l*4611686018427387905:=Int.mul_le_mul_of_nonneg_left om om
 unfold A9;omega
theorem C7.right {m:Mn} {lo:Int} {l:List It} (h:C7 m.b lo l) (k:K7 m l):m.right=true:=by
 obtain ⟨h1,h2,h3,h4⟩:=h.sum
 have hl:=h.2.1
 rw [Cj]
 have e1:=k.a
 have e2:=k.w
 have e3:=k.n
 cases l with
 | nil=>left;simp only [CY,CG,List.length_nil] at *;omega
 | cons x l=>right;simp only [List.length_cons] at *;omega
theorem C7.perm {b lo:Int} {l l':List It} (h:C7 b lo l) (p:l.Perm l'):C7 b lo l':=⟨h.1,by rw [← p.length_eq];exact h.2.1,fun x hx=>h.2.2 x (p.mem_iff.2 hx)⟩
theorem C7.tail {b lo:Int} {a:It} {l:List It} (h:C7 b lo (a :: l)):C7 b lo l:=⟨h.1,by have:=h.2.1;simp only [List.length_cons] at this;omega,fun x hx=>h.2.2 x (List.mem_cons_of_mem _ hx)⟩
theorem C7.head {b lo:Int} {a:It} {l:List It} (h:C7 b lo (a :: l)):K8 b lo a:=h.2.2 a List.mem_cons_self
theorem jA {m:Mn} {lo:Int} {a:It} {l:List It} (h:C7 m.b lo (a :: l)) (k:K7 m l):∃ m',EF m a.p=some m'∧m'.b=m.b∧K7 m' (a :: l):=by
 have hr:=h.tail.right k
 have hp:=(iright_all h.head.isin h.head.right).1
 have hw:=h.inW
 have hl:=h.2.1
 have e1:=k.a
 have e2:=k.w
 have e3:=k.n
 simp only [List.length_cons] at hl
 simp only [CY] at hw
 refine ⟨_,if_pos ⟨hr,hp,by omega,by rw [e1,Int.add_comm];exact hw⟩,rfl,?_⟩
 constructor
 ·simp only [CY];omega
 ·simp only [CG];omega
 ·simp only [List.length_cons];omega
theorem tK {m:Mn} {lo:Int} {a:It} {l:List It} (h:C7 m.b lo (a :: l)) (k:K7 m (a :: l)):Fi m a.p=some (F4 m a.p)∧K7 (F4 m a.p) l:=by
 have hr:=h.right k
 have hp:=(iright_all h.head.isin h.head.right).1
 have hw:=h.tail.inW
 have e1:=k.a
 have e2:=k.w
 have e3:=k.n
 have hs:=h.tail.sum.2.2.1
 simp only [CY,CG,List.length_cons] at e1 e2 e3
 have i:K7 (F4 m a.p) l:=⟨by simp only [F4];omega,by simp only [F4];omega,by simp only [F4];omega⟩
 refine ⟨if_pos ⟨hr,hp,by omega,by omega,?_,(show C7 (F4 m a.p).b lo l from h.tail).right i⟩,i⟩
 rw [show m.a - dist a.p m.b=CY m.b l by omega];exact hw
theorem C7.mid {b lo:Int} {l:List It} (h:C7 b lo l) (hl:l≠[]):0 < CG l∧lo≤CY b l / CG l∧CY b l / CG l≤lo+4611686018427387904:=by
 obtain ⟨h1,h2,h3,h4⟩:=h.sum
 have hp:0 < l.length:=List.length_pos_iff.2 hl
 refine ⟨by omega,Int.le_ediv_of_mul_le om (by rw [Int.mul_comm];exact h1),?_⟩
 have:=Int.ediv_lt_of_lt_mul (a:=CY b l) (b:=lo+4611686018427387904+1) (c:=CG l) om (by rw [Int.mul_comm];omega)
 omega
theorem Qu {m:Mn} {lo:Int} {l:List It} (h:C7 m.b lo l) (k:K7 m l) (hl:l≠[]):I3 m=some (lat m.b (CY m.b l / CG l)):=by
 obtain ⟨h1,h2,h3⟩:=h.mid hl
 have hm:=h.1
 unfold I4 at hm
 have hn:m.n≠0:=by rw [k.n];have:=List.length_pos_iff.2 hl;omega
 unfold I3
 rw [← k.a,← k.w] at *
 exact if_pos ⟨h.right k,hn,by unfold In64;omega⟩
theorem Ng {b c k:Int}:∀ {l:List It},(∀ x∈l,sn x.p.t c=sn x.p.t b - k)→CY c l=CY b l - CG l*k
 | [],_=>by simp [CY,CG]
 | a :: l,h=>by
   simp only [CY,CG]
   rw [Ng fun x hx=>h x (List.mem_cons_of_mem _ hx),cJ (h a List.mem_cons_self),Int.add_mul];omega
structure Kv (m:Mn) (l:List It):Prop where
 is:K7 m l
 u:BV m.b
 a0:0≤m.a
 a1:m.a < m.w
 all:∃ lo,C7 m.b lo l
theorem C7.move {b lo c:Int} {l:List It} (h:C7 b lo l) (h0:lo≤sn c b) (h1:sn c b≤lo+4611686018427387904):C7 c (lo - sn c b) l∧∀ x∈l,sn x.p.t c=sn x.p.t b - sn c b:=by
 have hm:=h.1
 unfold I4 at hm
 exact ⟨⟨by unfold I4;omega,h.2.1,fun x hx=>((h.2.2 x hx).move h.1 h0 h1).1⟩,fun x hx=>((h.2.2 x hx).move h.1 h0 h1).2⟩
theorem O7 {m:Mn} {lo:Int} {l:List It} (h:C7 m.b lo l) (k:K7 m l) (hl:l≠[]):∃ m',Ik m ((I3 m).getD 0)=some m'∧Kv m' l:=by
 obtain ⟨h1,h2,h3⟩:=h.mid hl
 have hm:=h.1
 have hf:=Qu h k hl
 rw [hf,Option.getD_some]
 unfold I4 at hm
 have e:sn (lat m.b (CY m.b l / CG l)) m.b=CY m.b l / CG l:=vP (by unfold In64;omega)
 have hM:=h.move (c:=lat m.b (CY m.b l / CG l)) (by rw [e];exact h2) (by rw [e];exact h3)
 rw [e] at hM
 have hs:=Ng hM.2
 have ea:=k.a
 have ew:=k.w
 have em:m.a - m.w*(CY m.b l / CG l)=CY m.b l % CG l:=by rw [ea,ew];have:=Int.mul_ediv_add_emod (CY m.b l) (CG l);omega
 have n0:=Int.emod_nonneg (CY m.b l) (show CG l≠0 by omega)
 have n1:=Int.emod_lt_of_pos (CY m.b l) h1
 have hi:A9 (CY m.b l % CG l):=by
  have:=h.sum.2.2.2
  have:=h.2.1
  unfold A9;omega
 refine ⟨_,if_pos ⟨h.right k,by rw [e,em];exact hi⟩,⟨⟨?_,ew,k.n⟩,WQ _ _,?_,?_,_,hM.1⟩⟩
 ·show m.a - m.w*sn _ m.b=CY _ l
  rw [e,hs,ea,ew]
 ·show 0≤m.a - m.w*sn _ m.b
  rw [e,em];exact n0
 ·show m.a - m.w*sn _ m.b < m.w
  rw [e,em,ew];exact n1
theorem Kv.now {m:Mn} {l:List It} (h:Kv m l) (hl:l≠[]):I3 m=some m.b:=by
 obtain ⟨lo,k⟩:=h.all
 rw [Qu k h.is hl,← h.is.a,← h.is.w,Int.ediv_eq_zero_of_lt h.a0 h.a1,mP h.u]
def JH:List It→Mn
 | [] => .zero
 | x :: l=>⟨lat x.p.t (CY x.p.t (x :: l) / CG (x :: l)),CY x.p.t (x :: l) % CG (x :: l),CG (x :: l),(x :: l).length⟩
theorem Kv.perm {m:Mn} {l l':List It} (h:Kv m l) (p:l.Perm l'):Kv m l':=by
 obtain ⟨lo,k⟩:=h.all
 exact ⟨h.is.perm p,h.u,h.a0,h.a1,lo,k.perm p⟩
theorem Kv.eq {m:Mn}:∀ {l:List It},Kv m l→l≠[]→m=JH l
 | [],_,h=>absurd rfl h
 | x :: l,h,_=>by
   obtain ⟨lo,k⟩:=h.all
   have d:=k.head.dead k.1
   have hM:=k.move (c:=x.p.t) k.head.low d.2.2
   have hs:=Ng hM.2
   have e:=tS (b:=m.b) k.head.isin.1.1
   show m=⟨lat x.p.t (CY x.p.t (x :: l) / CG (x :: l)),CY x.p.t (x :: l) % CG (x :: l),CG (x :: l),(x :: l).length⟩
   rw [hs,← h.is.a,← h.is.w,← h.is.n]
   have hw:0 < m.w:=by have:=h.a0;have:=h.a1;omega
   have q:(m.a - m.w*sn x.p.t m.b) / m.w=- sn x.p.t m.b:=by
    rw [Int.sub_eq_add_neg,← Int.mul_neg,Int.add_mul_ediv_left _ _ om,Int.ediv_eq_zero_of_lt h.a0 h.a1];omega
   have r:(m.a - m.w*sn x.p.t m.b) % m.w=m.a:=by
    rw [Int.sub_eq_add_neg,← Int.mul_neg,Int.add_mul_emod_self_left,Int.emod_eq_of_lt h.a0 h.a1]
   rw [q,r]
   have:lat x.p.t (- sn x.p.t m.b)=m.b:=by
    have hu:=h.u
    have:=e
    unfold BV at hu
    unfold lat at *;omega
   rw [this]
namespace RB
variable {α : Type}
def isNil:RB α→Bool
 | nil=>true
 | node _ _ _ _=>false
def both:RB α→Bool
 | node (node _ _ _ _) _ (node _ _ _ _) _=>true
 | _=>false
def CK:RB α→RB α→RB α
 | nil,_=>nil
 | node l x _ c,r=>node l x r c
def E7 (t:RB α):RB α:=bif (flip t).right.left.red then flip (GN (CK (flip t) (Cz (flip t).right))) else flip t
def Eg (t:RB α):RB α:=bif (flip t).left.left.red then flip (Cz (flip t)) else flip t
def EM (t:RB α):Option (RB α):=bif !t.left.red && !t.left.left.red then (bif both t then some (E7 t) else none) else some t
def IK (t:RB α):Option (RB α):=bif !t.right.red && !t.right.left.red then (bif both t then some (Eg t) else none) else some t
def least:RB α→Option α
 | nil=>none
 | node nil x _ _=>some x
 | node (node a y b c) _ _ _=>least (node a y b c)
def Ez:Nat→RB α→Option (RB α)
 | 0,_=>none
 | k+1,t=>bif t.isNil then none else bif t.left.isNil then some nil else
   match EM t with
   | some (node l x r c)=>(Ez k l).map fun l'=>mend (node l' x r c)
   | _=>none
def cut (lt:α→α→Bool) (x:α):Nat→RB α→Option (RB α)
 | 0,_=>none
 | _+1,nil=>none
 | k+1,node l y r c=>bif lt x y then
  (bif l.isNil then none else
   match EM (node l y r c) with
   | some (node l1 y1 r1 c1)=>(cut lt x k l1).map fun l'=>mend (node l' y1 r1 c1)
   | _=>none)
   else bif (bif l.red then Cz (node l y r c) else node l y r c).right.isNil then some nil else
    match IK (bif l.red then Cz (node l y r c) else node l y r c) with
    | some (node l2 y2 r2 c2)=>bif lt y2 x then (cut lt x k r2).map fun r'=>mend (node l2 y2 r' c2)
     else match least r2 with
      | some m=>(Ez k r2).map fun r'=>mend (node l2 m r' c2)
      | none=>none
    | _=>none
theorem eU:∀ (t r:RB α),t.right.list=r.list→(CK t r).list=t.list
 | nil,r,h=>rfl
 | node l x r' c,r,h=>by simp only [CK,list];rw [← h];rfl
theorem XE (t:RB α):(E7 t).list=t.list:=by
 unfold E7
 cases (flip t).right.left.red
 ·rw [cond_false,HI]
 ·rw [cond_true,HI,Jv,eU _ _ (HN _).symm,HI]
theorem Uk (t:RB α):(Eg t).list=t.list:=by
 unfold Eg
 cases (flip t).left.left.red
 ·rw [cond_false,HI]
 ·rw [cond_true,HI,HN,HI]
theorem SU:∀ t:RB α,least t=t.list.head?
 | nil=>rfl
 | node nil x _ _=>rfl
 | node (node a y b c) x r d=>by
   have:=SU (node a y b c)
   simp only [least,list] at *
   rw [this]
   cases h:a.list with
   | nil=>simp
   | cons u v=>simp
theorem bQ {t:RB α} (h:t.isNil=false):∃ m,least t=some m∧t.list=m :: t.list.tail:=by
 rw [SU]
 cases hl:t.list with
 | nil=>cases t with
   | nil=>cases h
   | node l x r c=>simp [list] at hl
 | cons m l=>exact ⟨m,rfl,rfl⟩
theorem Jq {l r:RB α} {x:α} {c:Bool} (h1:l.red=false) (h2:r.red=false):mend (node l x r c)=node l x r c:=by
 simp [mend,DX,Dz,Dy,Au,Az,BN,h1,h2]
theorem Wc {l r:RB α} {x:α} {c:Bool} {h:Nat} (hl:Ok l h) (h2:r.red=false):mend (node l x r c)=node l x r c:=by
 have hlr:(l.red && l.left.red)=false:=by
  cases hc:l.red
  ·rfl
  ·rw [JX hl hc];rfl
 simp [mend,DX,Dz,Dy,Au,Az,BN,h2,hlr]
theorem Pu {l r:RB α} {y:α} {h:Nat} (hr:Ok r h) (hl:l.red=false):(mend (node l y r false)).red=false:=by
 cases hc:r.red
 ·rw [Jq hl hc];rfl
 ·obtain ⟨rl,z,rr,rfl⟩:=Br hc
  obtain ⟨p1,p2,p3,p4⟩:=hr.E8
  have:mend (node l y (node rl z rr true) false)=node (node l y rl true) z rr false:=by
   simp [mend,DX,Dz,Dy,Au,Az,BN,GN,hl,p4]
  rw [this];rfl
theorem JM {t:RB α} (k:Ok t 0) (h:t.red=false):t=nil:=by
 cases k with
 | nil=>rfl
 | red a b c d=>cases h
theorem HQ {t:RB α} {h:Nat} (k:Ok t (h+1)) (hr:t.red=false):∃ l x r,t=node l x r false∧Ok l h∧Ok r h∧r.red=false:=by
 cases k with
 | black a b c=>exact ⟨_,_,_,rfl,a,b,c⟩
 | red a b c d=>cases hr
theorem LL (A B C:List α) (y:α):((A ++ y :: B) ++ C).tail=(A ++ y :: B).tail ++ C:=by cases A <;> simp
theorem tE {t:RB α} (h:t.isNil=false):t.list≠[]:=by
 cases t with
 | nil=>cases h
 | node l x r c=>simp [list]
structure Cut (t t':RB α) (h:Nat) (L:List α):Prop where
 ok:Ok t' h
 black:t.red=false→t'.red=false
 list:t'.list=L
theorem KM:∀ (k:Nat) (t:RB α) (h:Nat),Ok t h→t.isNil=false→(t.red=true∨t.left.red=true)→t.list.length≤k→∃ t',Ez k t=some t'∧Cut t t' h t.list.tail
 | 0,t,h,hk,hn,_,hl=>by
   have:=tE hn
   cases ht:t.list with
   | nil=>exact absurd ht this
   | cons a b=>rw [ht] at hl;simp at hl
 | k+1,nil,h,hk,hn,_,hl=>by cases hn
 | k+1,node l x r true,h,hk,hn,_,hl=>by
   obtain ⟨a,b,c,d⟩:=hk.E8
   simp only [list,List.length_append,List.length_cons] at hl
   cases h with
   | zero =>
     obtain rfl:=JM a c
     obtain rfl:=JM b d
     exact ⟨nil,rfl,.nil,(fun h=>by cases h),rfl⟩
   | succ h =>
     obtain ⟨ll,y,lr,rfl,a1,a2,a3⟩:=HQ a c
     obtain ⟨rl,z,rr,rfl,b1,b2,b3⟩:=HQ b d
     simp only [list,List.length_append,List.length_cons] at hl
     cases hc:ll.red
     ·cases hd:rl.red
      ·obtain ⟨t',e,q⟩:=KM k (node ll y lr true) h (.red a1 a2 hc a3) rfl (.inl rfl) (by simp only [list,List.length_append,List.length_cons];omega)
       refine ⟨mend (node t' x (node rl z rr true) false),?_,GP q.ok (.red b1 b2 hd b3),(fun h=>by cases h),?_⟩
       ·simp [Ez,isNil,EM,both,E7,flip,Au,Az,BN,hc,hd,e]
       ·rw [DD]
        simp only [list,q.list]
        rw [LL]
      ·obtain ⟨rll,u,rlr,rfl⟩:=Br hd
       obtain ⟨e1,e2,e3,e4⟩:=b1.E8
       obtain ⟨t',e,q⟩:=KM k (node (node ll y lr true) x rll false) (h+1) (.black (.red a1 a2 hc a3) e1 e3) rfl (.inr rfl) (by simp only [list,List.length_append,List.length_cons] at *;omega)
       have q2:=q.black rfl
       refine ⟨node t' u (node rlr z rr false) true,?_,.red q.ok (.black e2 b2 b3) q2 rfl,(fun h=>by cases h),?_⟩
       ·have:=Jq (l:=t') (r:=node rlr z rr false) (x:=u) (c:=true) q2 rfl
        simp [Ez,isNil,EM,both,E7,flip,GN,Cz,CK,Au,Az,BN,hc,e,this]
       ·simp only [list,q.list]
        rw [LL,LL]
        simp
     ·obtain ⟨t',e,q⟩:=KM k (node ll y lr false) (h+1) (.black a1 a2 a3) rfl (.inr hc) (by simp only [list,List.length_append,List.length_cons];omega)
      have q2:=q.black rfl
      refine ⟨node t' x (node rl z rr false) true,?_,.red q.ok (.black b1 b2 b3) q2 rfl,(fun h=>by cases h),?_⟩
      ·have:=Jq (l:=t') (r:=node rl z rr false) (x:=x) (c:=true) q2 rfl
       simp [Ez,isNil,EM,Au,Az,BN,hc,e,this]
      ·simp only [list,q.list]
       rw [LL]
 | k+1,node l x r false,h,hk,hn,hc,hl=>by
   obtain ⟨h,rfl,a,b,c⟩:=hk.L4
   have hlr:l.red=true:=by rcases hc with hc | hc;cases hc;exact hc
   simp only [list,List.length_append,List.length_cons] at hl
   obtain ⟨ll,y,lr,rfl⟩:=Br hlr
   obtain ⟨t',e,q⟩:=KM k (node ll y lr true) h a rfl (.inl rfl) om
   have e2:=Wc (x:=x) (c:=false) q.ok c
   refine ⟨node t' x r false,?_,.black q.ok b c,fun _=>rfl,?_⟩
   ·simp [Ez,isNil,EM,Au,Az,BN,e,e2]
   ·simp only [list,q.list]
    rw [LL]
end RB
end Go.Proofs.Q0
namespace Go.Proofs.Q0
namespace RB
variable {α : Type} [DecidableEq α]
def sans (x:α) (l:List α):List α:=l.filter fun z=>!decide (z=x)
theorem MQ (x:α) (A B:List α):sans x (A ++ B)=sans x A ++ sans x B:=List.filter_append ..
theorem KR {x:α} {l:List α} (h:∀ z∈l,z≠x):sans x l=l:=List.filter_eq_self.2 fun z hz=>by simp [h z hz]
theorem Tc {x y:α} (h:y≠x) (l:List α):sans x (y :: l)=y :: sans x l:=by simp [sans,h]
theorem UJ (x:α) (l:List α):sans x (x :: l)=sans x l:=by simp [sans]
structure In (lt:α→α→Bool) (S:α→Prop) (x:α) (l:List α):Prop where
 srt:K4 lt l
 s:∀ z∈l,S z
 mem:x∈l
variable {lt : α → α → Bool} {S : α → Prop} {x : α}
theorem zS (ho:Cq lt S) {a b:α} (ha:S a) (h:lt a b=true):a≠b:=fun e=>by
 subst e
 rw [ho.irr a ha] at h
 cases h
theorem In.left (ho:Cq lt S) {L R:List α} {y:α} (h:In lt S x (L ++ y :: R)) (hxy:lt x y=true):In lt S x L∧sans x (L ++ y :: R)=sans x L ++ y :: R:=by
 obtain ⟨h1,h2,h3,h4,h5⟩:=IU h.srt
 have hx:=h.s x h.mem
 have hy:=h.s y (by simp)
 have hR:∀ z∈y :: R,z≠x:=fun z hz e=>by
  subst e
  rcases List.mem_cons.1 hz with rfl | hz
  ·rw [ho.irr _ hx] at hxy;cases hxy
  ·have:=asym ho hy hx (h4 z hz);rw [hxy] at this;cases this
 have hm:x∈L:=by
  rcases List.mem_append.1 h.mem with hm | hm
  ·exact hm
  ·exact absurd rfl (hR x hm)
 exact ⟨⟨h1,fun z hz=>h.s z (List.mem_append_left _ hz),hm⟩,by rw [MQ,KR hR]⟩
theorem In.right (ho:Cq lt S) {L R:List α} {y:α} (h:In lt S x (L ++ y :: R)) (hxy:lt y x=true):In lt S x R∧sans x (L ++ y :: R)=L ++ y :: sans x R:=by
 obtain ⟨h1,h2,h3,h4,h5⟩:=IU h.srt
 have hx:=h.s x h.mem
 have hy:=h.s y (by simp)
 have hL:∀ z∈L,z≠x:=fun z hz e=>by
  subst e
  have:=asym ho hx hy (h3 z hz);rw [hxy] at this;cases this
 have LO:=zS ho hy hxy
 have hm:x∈R:=by
  rcases List.mem_append.1 h.mem with hm | hm
  ·exact absurd rfl (hL x hm)
  ·rcases List.mem_cons.1 hm with rfl | hm
   ·exact absurd rfl LO
   ·exact hm
 exact ⟨⟨h2,fun z hz=>h.s z (by simp [hz]),hm⟩,by rw [MQ,KR hL,Tc LO]⟩
theorem In.eq (ho:Cq lt S) {L R:List α} {y:α} (h:In lt S x (L ++ y :: R)) (h6:lt x y=false) (h7:lt y x=false):sans x (L ++ y :: R)=L ++ R:=by
 obtain ⟨h1,h2,h3,h4,h5⟩:=IU h.srt
 have hx:=h.s x h.mem
 have hy:=h.s y (by simp)
 obtain rfl:=ho.tri x y hx hy h6 h7
 rw [MQ,UJ,KR,KR]
 ·intro z hz e;subst e;have:=h4 _ hz;rw [ho.irr _ hx] at this;cases this
 ·intro z hz e;subst e;have:=h3 _ hz;rw [ho.irr _ hx] at this;cases this
theorem In.up (ho:Cq lt S) {L R:List α} {y u:α} (h:In lt S x (L ++ y :: R)) (hu:u∈R) (hxy:lt x y=true):lt x u=true:=by
 obtain ⟨h1,h2,h3,h4,h5⟩:=IU h.srt
 exact ho.tr x y u (h.s x h.mem) (h.s y (by simp)) (h.s u (by simp [hu])) hxy (h4 u hu)
theorem In.down (ho:Cq lt S) {L R:List α} {y u:α} (h:In lt S x (L ++ y :: R)) (hu:u∈L) (hxy:lt x y=false):lt u x=true:=by
 obtain ⟨h1,h2,h3,h4,h5⟩:=IU h.srt
 have hx:=h.s x h.mem
 have hy:=h.s y (by simp)
 have hus:=h.s u (by simp [hu])
 have huy:=h3 u hu
 cases LO:lt y x
 ·rw [ho.tri x y hx hy hxy LO];exact huy
 ·exact ho.tr u y x hus hy hx huy LO
def bP (lt:α→α→Bool) (S:α→Prop) (x:α) (k:Nat):Prop :=
 ∀ (t:RB α) (h:Nat),Ok t h→t.isNil=false→(t.red=true∨t.left.red=true)→t.list.length≤k→In lt S x t.list→∃ t',cut lt x k t=some t'∧Cut t t' h (sans x t.list)
theorem NT (ho:Cq lt S) {k:Nat} (ih:bP lt S x k) {l r:RB α} {y:α} {c:Bool} {h:Nat} (hr:Ok r h) (hn:r.isNil=false) (hc:r.red=true∨r.left.red=true) (hl:r.list.length≤k) (hI:In lt S x (l.list ++ y :: r.list)) (hxy:lt x y=false) :
 ∃ m r',(bif lt y x then (cut lt x k r).map fun r'=>mend (node l y r' c) else match least r with
  | some m=>(Ez k r).map fun r'=>mend (node l m r' c)
  | none=>none)=some (mend (node l m r' c))∧Ok r' h∧(r.red=false→r'.red=false)∧l.list ++ m :: r'.list=sans x (l.list ++ y :: r.list):=by
 cases LO:lt y x
 ·obtain ⟨m,hm,hm2⟩:=bQ hn
  obtain ⟨r',e,q⟩:=KM k r h hr hn hc hl
  refine ⟨m,r',by simp [hm,e],q.ok,q.black,?_⟩
  rw [hI.eq ho hxy LO,q.list,← hm2]
 ·obtain ⟨jJ,e1⟩:=hI.right ho LO
  obtain ⟨r',e,q⟩:=ih r h hr hn hc hl jJ
  exact ⟨y,r',by simp [e],q.ok,q.black,by rw [e1,q.list]⟩
theorem sH (ho:Cq lt S) {k:Nat} (ih:bP lt S x k) {l r:RB α} {y:α} {h:Nat} (hl:Ok l h) (hr:Ok r h) (h1:l.red=false) (h2:r.red=true) (hxy:lt x y=false) (hlen:(node l y r false).list.length≤k+1) (hI:In lt S x (l.list ++ y :: r.list)) :
 ∃ t',cut lt x (k+1) (node l y r false)=some t'∧Cut (node l y r false) t' (h+1) (sans x (l.list ++ y :: r.list)):=by
 have hn:r.isNil=false:=by
  obtain ⟨a,b,c,rfl⟩:=Br h2
  rfl
 simp only [list,List.length_append,List.length_cons] at hlen
 obtain ⟨m,r',e,e1,e2,e3⟩:=NT ho ih (c:=false) hr hn (.inl h2) om hI hxy
 refine ⟨_,?_,GP (y:=m) hl e1,fun _=>Pu e1 h1,by rw [DD];exact e3⟩
 simp only [cut,hxy,h1,cond_false,IK,Az,hn,h2,Bool.not_true,Bool.false_and]
 exact e
theorem WV (ho:Cq lt S):∀ k,bP lt S x k
 | 0=>fun t h hk hn _ hl hI=>by
   have:=hI.mem
   cases ht:t.list with
   | nil=>rw [ht] at this;cases this
   | cons a b=>rw [ht] at hl;simp at hl
 | k+1=>fun t h hk hn hc hl hI=>by
   have ih:=WV ho k
   cases t with
   | nil=>cases hn
   | node l y r c =>
   simp only [list,List.length_append,List.length_cons] at hl
   simp only [list] at hI
   cases hxy:lt x y
   ·-- to the right
    cases c with
    | false =>
      obtain ⟨h,rfl,a,b,c⟩:=hk.L4
      have hlr:l.red=true:=by rcases hc with hc | hc;cases hc;exact hc
      obtain ⟨ll,z,lr,rfl⟩:=Br hlr
      obtain ⟨a1,a2,a3,a4⟩:=a.E8
      simp only [list,List.length_append,List.length_cons] at hl
      have pI:lt z x=true:=hI.down ho (by simp [list]) hxy
      have fE:In lt S x (ll.list ++ z :: (node lr y r true).list):=by simpa [list] using hI
      obtain ⟨gF,e1⟩:=fE.right ho pI
      obtain ⟨t',e,q⟩:=ih (node lr y r true) h (.red a2 b a4 c) rfl (.inl rfl) (by simp only [list,List.length_append,List.length_cons];omega) gF
      refine ⟨mend (node ll z t' false),?_,GP a1 q.ok,fun _=>Pu q.ok a3,?_⟩
      ·simp only [cut,hxy,cond_false,BN,cond_true,Cz,Az,isNil,IK,Bool.not_true,Bool.false_and,pI]
       simp [e]
      ·rw [DD]
       simp only [list]
       rw [q.list,← e1]
       simp [list]
    | true =>
      obtain ⟨a,b,c,d⟩:=hk.E8
      cases h with
      | zero =>
        obtain rfl:=JM a c
        obtain rfl:=JM b d
        refine ⟨nil,by simp [cut,hxy,red,right,isNil],.nil,(fun h=>by cases h),?_⟩
        have hm:=hI.mem
        simp [list] at hm
        subst hm
        simp [list,sans]
      | succ h =>
        obtain ⟨ll,u,lr,rfl,a1,a2,a3⟩:=HQ a c
        obtain ⟨rl,z,rr,rfl,b1,b2,b3⟩:=HQ b d
        simp only [list,List.length_append,List.length_cons] at hl
        cases hd:rl.red
        ·cases he:ll.red
         ·obtain ⟨m,r',e,e1,e2,e3⟩:=NT ho ih (l:=node ll u lr true) (c:=false) (Ok.red (x:=z) b1 b2 hd b3) rfl (.inl rfl) (by simp only [list,List.length_append,List.length_cons];omega) (y:=y) (by simpa [list] using hI) hxy
          refine ⟨_,?_,GP (y:=m) (.red a1 a2 he a3) e1,(fun h=>by cases h),by rw [DD];rw [show (node (node ll u lr true) m r' false).list=(node ll u lr true).list ++ m :: r'.list from rfl,e3];rfl⟩
          simp only [cut,hxy,cond_false,BN,Az,Au,isNil,IK,hd,Bool.not_false,Bool.and_self,both,cond_true,Eg,flip,Bool.not_true,he]
          exact e
         ·obtain ⟨p,v,s,rfl⟩:=Br he
          obtain ⟨c1,c2,c3,c4⟩:=a1.E8
          have hux:lt u x=true:=hI.down ho (by simp [list]) hxy
          have fE:In lt S x ((node p v s false).list ++ u :: (lr.list ++ y :: (node rl z rr true).list)):=by simpa [list] using hI
          obtain ⟨gF,e1⟩:=fE.right ho hux
          cases k with
          | zero=>omega
          | succ k =>
          have ih':=WV ho k
          obtain ⟨t',e,q⟩:=sH ho ih' a2 (Ok.red (x:=z) b1 b2 hd b3) a3 rfl hxy (by simp only [list,List.length_append,List.length_cons] at *;omega) gF
          have q2:=q.black rfl
          have e5:=Jq (l:=node p v s false) (r:=t') (x:=u) (c:=true) rfl q2
          refine ⟨node (node p v s false) u t' true,?_,.red (.black c1 c2 c4) q.ok rfl q2,(fun h=>by cases h),?_⟩
          ·rw [cut]
           simp only [hxy,cond_false,BN,Az,Au,isNil,IK,hd,Bool.not_false,Bool.and_self,both,cond_true,Eg,flip,Cz,Bool.not_true,hux]
           rw [← e5,e]
           rfl
          ·simp only [list] at *
           rw [q.list,← e1]
           simp
        ·obtain ⟨m,r',e,e1,e2,e3⟩:=NT ho ih (l:=node ll u lr false) (c:=true) b rfl (.inr hd) (by simp only [list,List.length_append,List.length_cons];omega) (y:=y) (by simpa [list] using hI) hxy
         have q2:=e2 rfl
         have e5:=Jq (l:=node ll u lr false) (r:=r') (x:=m) (c:=true) rfl q2
         refine ⟨node (node ll u lr false) m r' true,?_,.red a e1 rfl q2,(fun h=>by cases h),e3⟩
         rw [← e5]
         simp only [cut,hxy,cond_false,BN,Az,Au,isNil,IK,hd,Bool.not_false,Bool.not_true,Bool.and_false,cond_true]
         exact e
   ·-- to the left
    obtain ⟨U9,eF⟩:=hI.left ho hxy
    cases c with
    | false =>
      obtain ⟨h,rfl,a,b,c⟩:=hk.L4
      have hlr:l.red=true:=by rcases hc with hc | hc;cases hc;exact hc
      obtain ⟨ll,z,lr,rfl⟩:=Br hlr
      obtain ⟨t',e,q⟩:=ih _ h a rfl (.inl rfl) om U9
      have e2:=Wc (x:=y) (c:=false) q.ok c
      refine ⟨node t' y r false,?_,.black q.ok b c,fun _=>rfl,?_⟩
      ·simp [cut,hxy,isNil,EM,Au,Az,BN,e,e2]
      ·simp only [list] at *
       rw [q.list,eF]
    | true =>
      obtain ⟨a,b,c,d⟩:=hk.E8
      cases h with
      | zero =>
        obtain rfl:=JM a c
        have:=U9.mem
        cases this
      | succ h =>
        obtain ⟨ll,u,lr,rfl,a1,a2,a3⟩:=HQ a c
        obtain ⟨rl,z,rr,rfl,b1,b2,b3⟩:=HQ b d
        simp only [list,List.length_append,List.length_cons] at hl
        cases he:ll.red
        ·cases hd:rl.red
         ·obtain ⟨t',e,q⟩:=ih (node ll u lr true) h (.red a1 a2 he a3) rfl (.inl rfl) (by simp only [list,List.length_append,List.length_cons];omega) U9
          refine ⟨mend (node t' y (node rl z rr true) false),?_,GP q.ok (.red b1 b2 hd b3),(fun h=>by cases h),?_⟩
          ·simp [cut,hxy,isNil,EM,both,E7,flip,Au,Az,BN,he,hd,e]
          ·rw [DD]
           simp only [list] at *
           rw [q.list,eF]
         ·obtain ⟨rll,v,rlr,rfl⟩:=Br hd
          obtain ⟨c1,c2,c3,c4⟩:=b1.E8
          have hxv:lt x v=true:=hI.up ho (by simp [list]) hxy
          have fE:In lt S x ((node (node ll u lr true) y rll false).list ++ v :: (node rlr z rr false).list):=by simpa [list] using hI
          obtain ⟨gF,eF2⟩:=fE.left ho hxv
          obtain ⟨t',e,q⟩:=ih (node (node ll u lr true) y rll false) (h+1) (.black (.red a1 a2 he a3) c1 c3) rfl (.inr rfl) (by simp only [list,List.length_append,List.length_cons] at *;omega) gF
          have q2:=q.black rfl
          have e5:=Jq (l:=t') (r:=node rlr z rr false) (x:=v) (c:=true) q2 rfl
          refine ⟨node t' v (node rlr z rr false) true,?_,.red q.ok (.black c2 b2 b3) q2 rfl,(fun h=>by cases h),?_⟩
          ·simp [cut,hxy,isNil,EM,both,E7,flip,GN,Cz,CK,Au,Az,BN,he,e,e5]
          ·simp only [list] at *
           rw [q.list,← eF2]
           simp
        ·obtain ⟨t',e,q⟩:=ih (node ll u lr false) (h+1) a rfl (.inr he) (by simp only [list,List.length_append,List.length_cons];omega) U9
         have q2:=q.black rfl
         have e5:=Jq (l:=t') (r:=node rl z rr false) (x:=y) (c:=true) q2 rfl
         refine ⟨node t' y (node rl z rr false) true,?_,.red q.ok b q2 rfl,(fun h=>by cases h),?_⟩
         ·simp [cut,hxy,isNil,EM,Au,Az,BN,he,e,e5]
         ·simp only [list] at *
          rw [q.list,eF]
end RB
end Go.Proofs.Q0
namespace Go.Proofs.Q0
def dig (ds:List Int) (i:Nat):Int:=ds.getD i 0
end Go.Proofs.Q0
namespace Go.Proofs.Q0
open Go Go.RowKit
attribute [local irreducible] XS XC XA AX AO A6 AZ AY A7 Ab AV SE
def HL (w:World) (sl:Value) (ds:List Int):Prop :=
 ∃ ad cap,sl = .slice ad ds.length cap∧(ds≠[]→∃ (b off:Nat) (cs:List Value) (fz:Nat × Nat),ad=some ⟨b,off,none⟩∧ds.length≤cap∧w.heap[b]?=some (.cells cs.toArray 3 fz)∧∀ i d,ds[i]?=some d→cs[off+i]?=some (.int .i64 d))
theorem HL.only {w w':World} {sl:Value} {ds:List Int} (h:HL w sl ds) (ho:AA [] w w'):HL w' sl ds:=by
 obtain ⟨ad,cap,rfl,h⟩:=h
 refine ⟨ad,cap,rfl,fun hn=>?_⟩
 obtain ⟨b,off,cs,fz,h1,h2,h3,h4⟩:=h hn
 exact ⟨b,off,cs,fz,h1,h2,ho.block h3 (by simp),h4⟩
theorem Jz {n:Int} (h0:-9223372036854775808≤n) (h1:n < 9223372036854775808):IntKind.i64.wrap n=n:=by rw [wrap_i64];omega
def ints (xs:List Int):List Value:=xs.map (Value.int .i64)
theorem dI (xs:List Int) (d:Int):ints xs ++ [.int .i64 d]=ints (xs ++ [d]):=by simp [ints]
theorem sS {wb:World} {v:Value} {n:Nat} {xs:List Int} {H:List Bp} {w:World} {D:Ctx} (h:OC wb D H 3 1 v n (ints xs) w) (hn:n=xs.length):HL w v xs:=by
 subst hn
 rcases h with ⟨rfl,h0,hx,hs⟩ | ⟨g,cap,cur,rfl,hc,hl,hxl,ht,hs⟩
 ·have:xs=[]:=by simpa using h0
  subst this
  exact ⟨none,0,rfl,fun h=>absurd rfl h⟩
 ·refine ⟨_,cap,rfl,fun _=>⟨g,0,cur,(0,0),rfl,hc,hs.get At.head,fun i d hi=>?_⟩⟩
  have h1:(ints xs)[i]?=some (.int .i64 d):=by simp [ints,hi]
  rw [← ht,List.getElem?_take] at h1
  split at h1
  ·simpa using h1
  ·cases h1
theorem OC.st {wb:World} {v:Value} {n k e:Nat} {xs:List Value} {H:List Bp} {w:World} {D:Ctx} (h:OC wb D H e k v n xs w):St wb D H w:=by
 rcases h with ⟨_,_,_,hs⟩ | ⟨g,cap,cur,_,_,_,_,_,hs⟩
 ·exact hs
 ·exact hs.Bu
end Go.Proofs.Q0
namespace Go.Proofs.Q0
open Go Go.RowKit
abbrev EO (x:Int) (av:Value) (pl pr:Option Addr) (c:Bool):Obj := .cells #[.int .i64 x,av,.pointer pl,.pointer pr,.bool c] 325 (0,0)
abbrev C3 (p:Option Addr) (n:Int):Obj := .cells #[.pointer p,.int .i64 n,.func (.func 299) #[] #[],.func (.func 300) #[] #[],.func (.func 301) #[] #[]] 323 (0,0)
def Ad (w:World):RB Int→Option Addr→List Nat→Prop
 | .nil,p,fp=>p=none∧fp=[]
 | .node l x r c,p,fp=>∃ b av pl pr fl fr,p=some ⟨b,0,none⟩∧fp=b :: (fl ++ fr)∧w.heap[b]?=some (EO x av pl pr c)∧HL w av (l.list ++ x :: r.list)∧Ad w l pl fl∧Ad w r pr fr
def C5 (w:World) (l:RB Int) (x:Int) (r:RB Int) (c:Bool) (p:Option Addr) (fp:List Nat):Prop :=
 ∃ b av pl pr fl fr,p=some ⟨b,0,none⟩∧fp=b :: (fl ++ fr)∧w.heap[b]?=some (EO x av pl pr c)∧Ad w l pl fl∧Ad w r pr fr
theorem Ad.Lr {w:World} {l:RB Int} {x:Int} {r:RB Int} {c:Bool} {p:Option Addr} {fp:List Nat} (h:Ad w (.node l x r c) p fp):C5 w l x r c p fp:=by
 obtain ⟨b,av,pl,pr,fl,fr,h1,h2,h3,h4,h5,h6⟩:=h
 exact ⟨b,av,pl,pr,fl,fr,h1,h2,h3,h5,h6⟩
def AK (w:World) (F:List Nat):Prop:=∀ b∈F,∃ cs fz,w.heap[b]?=some (.cells cs 325 fz)
theorem AK.nil (w:World):AK w []:=fun b h=>by cases h
theorem AK.append {w:World} {F G:List Nat} (h:AK w F) (k:AK w G):AK w (F ++ G):=fun b hb=>by
 rcases List.mem_append.1 hb with hb | hb
 ·exact h b hb
 ·exact k b hb
theorem AK.cons {w:World} {F:List Nat} {b:Nat} {cs:Array Value} {fz:Nat × Nat} (h:w.heap[b]?=some (.cells cs 325 fz)) (k:AK w F):AK w (b :: F):=fun b' hb=>by
 rcases List.mem_cons.1 hb with rfl | hb
 ·exact ⟨_,_,h⟩
 ·exact k b' hb
theorem Ad.nodes {w:World}:∀ {t:RB Int} {p:Option Addr} {fp:List Nat},Ad w t p fp→AK w fp
 | .nil,p,fp,⟨_,h⟩=>by subst h;exact AK.nil w
 | .node l x r c,p,fp,⟨b,av,pl,pr,fl,fr,h1,h2,h3,h4,h5,h6⟩=>by
   subst h2
   exact .cons h3 (h5.nodes.append h6.nodes)
theorem C5.nodes {w:World} {l:RB Int} {x:Int} {r:RB Int} {c:Bool} {p:Option Addr} {fp:List Nat} (h:C5 w l x r c p fp):AK w fp:=by
 obtain ⟨b,av,pl,pr,fl,fr,h1,h2,h3,h5,h6⟩:=h
 subst h2
 exact .cons h3 (h5.nodes.append h6.nodes)
theorem HL.keep {w w':World} {v:Value} {xs:List Int} {F:List Nat} (h:HL w v xs) (ho:AA F w w') (hF:AK w F):HL w' v xs:=by
 obtain ⟨ad,cap,rfl,h⟩:=h
 refine ⟨ad,cap,rfl,fun hn=>?_⟩
 obtain ⟨b,off,cs,fz,h1,h2,h3,h4⟩:=h hn
 refine ⟨b,off,cs,fz,h1,h2,ho.block h3 fun hb=>?_,h4⟩
 obtain ⟨cs',iR,h5⟩:=hF b hb
 rw [h3] at h5
 cases h5
theorem Ad.keep {w w':World} {F:List Nat} (ho:AA F w w') (hF:AK w F):∀ {t:RB Int} {p:Option Addr} {fp:List Nat},Ad w t p fp→(∀ b∈fp,b∉F)→Ad w' t p fp
 | .nil,p,fp,h,_=>h
 | .node l x r c,p,fp,⟨b,av,pl,pr,fl,fr,h1,h2,h3,h4,h5,h6⟩,hd=>by
   subst h2
   exact ⟨b,av,pl,pr,fl,fr,h1,rfl,ho.block h3 (hd b List.mem_cons_self),h4.keep ho hF,Ad.keep ho hF h5 fun k hk=>hd k (List.mem_cons_of_mem _ (List.mem_append_left _ hk)),
    Ad.keep ho hF h6 fun k hk=>hd k (List.mem_cons_of_mem _ (List.mem_append_right _ hk))⟩
theorem head_keep {w w':World} {F:List Nat} {tb:Nat} {p:Option Addr} {n:Int} (h:w.heap[tb]?=some (C3 p n)) (ho:AA F w w') (hF:AK w F):w'.heap[tb]?=some (C3 p n) :=
 ho.block h fun hb=>by
  obtain ⟨cs',iR,h5⟩:=hF tb hb
  rw [h] at h5
  cases h5
end Go.Proofs.Q0
namespace Go.Proofs.Q0
open Go Go.RowKit
attribute [local irreducible] XS XC XA AX AO A6 AZ AY A7 Ab AV SE
theorem RF (a b:Int) (w0:World):AM Tryz.prog 299 #[.int .i64 a,.int .i64 b] w0 fun v w'=>v = .bool (decide (a < b))∧AA [] w0 w':=by
 have hs:=St.nil w0
 refine AQ Tryz.func299 Tryz.ntmps299 (k:=?_)
 refine Ja ?_
 refine AF ?_
 exact ⟨rfl,hs.AD rfl⟩
theorem MW (a:Int) (w0:World):AM Tryz.prog 300 #[.int .i64 a] w0 fun v w'=>HL w' v [a]∧AA [] w0 w':=by
 have hs:=St.nil w0
 refine AQ Tryz.func300 Tryz.ntmps300 (k:=?_)
 repeat' (first|refine Sa ?_|(refine bs hs (k:=?_);intro b w hz hs)|fail)
 refine AF ?_
 refine ⟨⟨_,_,rfl,fun _=>⟨_,0,[.int .i64 a],(0,0),rfl,Nat.le_refl _,hs.get At.head,fun i d h=>?_⟩⟩,hs.AD rfl⟩
 cases i with
 | zero=>simpa using h
 | succ i=>simp at h
theorem ints_one (xs:List Int):(xs.map (Value.int .i64)).all Value.oneCell'=true:=by simp [Value.oneCell']
theorem HL.cells {w:World} {ad:Option Addr} {cap n:Nat} {xs:List Int} (h:HL w (.slice ad n cap) xs) (hn:xs≠[]):∃ b off,ad=some ⟨b,off,none⟩∧n=xs.length∧n≤cap∧∀ (j:Nat) u,(ints xs)[j]?=some u→w.cell? ((⟨b,off,none⟩:Addr).add j)=some u:=by
 obtain ⟨ad',cap',e,h⟩:=h
 cases e
 obtain ⟨b,off,cs,fz,rfl,h2,h3,h4⟩:=h hn
 refine ⟨b,off,rfl,rfl,h2,fun j u hj=>?_⟩
 rw [E9]
 unfold ints at hj
 rw [List.getElem?_map] at hj
 obtain ⟨d,hd,rfl⟩:=Option.map_eq_some_iff.1 hj
 simp [World.cell?,h3,h4 j d hd]
theorem NF (va vb:Value) (A B:List Int) (fQ:A≠[]) (hB0:B≠[]) (hlen:A.length+B.length≤1000000) (w0:World) (hA:HL w0 va A) (hB:HL w0 vb B) :
 AM Tryz.prog 301 #[va,vb] w0 fun v w'=>HL w' v (A ++ B)∧AA [] w0 w':=by
 obtain ⟨aa,ca,rfl,_⟩:=id hA
 obtain ⟨ab,cb,rfl,_⟩:=id hB
 have hs:=St.nil w0
 refine AQ Tryz.func301 Tryz.ntmps301 (k:=?_)
 refine Ag ?_
 refine Aq ?_
 refine vs (k:=?_)
 refine XS.nil ?_
 refine Dt ?_
 refine Ag ?_
 refine Aq ?_
 refine Mh AI rfl rfl hs ?_
 intro v1 w1 hO hv1
 refine vs (k:=?_)
 have AJ:=hO.st.AD rfl
 obtain ⟨b,off,rfl,_,_,hc⟩:=(hA.only AJ).cells fQ
 refine SF AI rfl rfl rfl rfl rfl rfl (by simp [ints]) (List.length_pos_iff.2 fQ) hc (List.all_eq_true.1 (ints_one A)) hO om om ?_
 intro v2 w2 hO hv2
 refine vs (k:=?_)
 have AN:=hO.st.AD rfl
 obtain ⟨b',off',rfl,_,_,MT⟩:=(hB.only AN).cells hB0
 refine SF AI rfl rfl rfl rfl rfl rfl (by simp [ints]) (List.length_pos_iff.2 hB0) MT (List.all_eq_true.1 (ints_one B)) hO om om ?_
 intro v3 w3 hO hv3
 have hs:=hO.st
 refine Jc ?_
 refine AF ?_
 refine ⟨?_,hs.AD rfl⟩
 have e:ints A ++ ints B=ints (A ++ B):=by simp [ints]
 simp only [List.nil_append] at hO
 rw [e] at hO
 exact sS hO (by simp)
theorem Bc (t:RB Int) (p:Option Addr) (fp:List Nat) (w0:World) (h:Ad w0 t p fp):AM Tryz.prog 314 #[.pointer p] w0 fun v w'=>v = .bool t.red∧AA [] w0 w':=by
 have hs:=St.nil w0
 cases t with
 | nil =>
   obtain ⟨rfl,rfl⟩:=h
   refine AQ Tryz.func314 Tryz.ntmps314 (k:=?_)
   repeat' (first|refine vs (k:=?_)|refine ps (k:=?_)|refine Aq ?_|refine Nx.h ?_|fail)
   refine AF ?_
   exact ⟨rfl,hs.AD rfl⟩
 | node l x r c =>
   obtain ⟨b,av,pl,pr,fl,fr,rfl,h2,h3,h4,h5,h6⟩:=h
   replace hs:=hs.AG h3 (by simp)
   refine AQ Tryz.func314 Tryz.ntmps314 (k:=?_)
   refine Ja ?_
   refine AF ?_
   exact ⟨rfl,hs.AB [] (by simp [h3]) (by simp [D0])⟩
def iI (e:Bp):Bool:=match e.2.1 with
 | .cells _ t _=>!(Nat.beq t 3)
 | _=>true
theorem HL.read {w wb:World} {D:Ctx} {H:List Bp} {v:Value} {ds:List Int} (hB:HL w v ds) (hs:St wb D H w) (hH:H.all iI=true) :
 ∃ R,St wb ⟨D.dirty,R ++ D.ro⟩ H w∧∀ w',(∀ e∈R,w'.heap[e.1]?=some e.2)→HL w' v ds:=by
 obtain ⟨ad,cap,rfl,hD⟩:=hB
 by_cases hn:ds=[]
 ·exact ⟨[],hs,fun w' _=>⟨ad,cap,rfl,fun h=>absurd hn h⟩⟩
 ·obtain ⟨b,off,cs,fz,rfl,h1,h2,h3⟩:=hD hn
  refine ⟨[(b,.cells cs.toArray 3 fz)],hs.read h2 ?_,fun w' hw=>⟨_,cap,rfl,fun _=>⟨b,off,cs,fz,rfl,h1,hw _ List.mem_cons_self,h3⟩⟩⟩
  intro hm
  obtain ⟨e,he,hb⟩:=List.mem_map.1 hm
  have h4:=hs.at_ e he
  rw [hb,h2] at h4
  have h5:=List.all_eq_true.1 hH e he
  unfold iI at h5
  cases o9:e.2.1 with
  | cells a t f =>
    rw [o9] at h4 h5
    cases h4
    simp at h5
  | _=>rw [o9] at h4;cases h4
theorem C2 {w:World} {tb b:Nat} {p:Option Addr} {n:Int} {cs:Array Value} {fz:Nat × Nat} (h:w.heap[tb]?=some (C3 p n)) (k:w.heap[b]?=some (.cells cs 325 fz)):b≠tb:=fun e=>by
 subst e
 rw [h] at k
 cases k
theorem ED (tb:Nat) (p0:Option Addr) (n0:Int) (l:RB Int) (x:Int) (r:RB Int) (c:Bool) (p:Option Addr) (fp:List Nat) (w0:World) (hT:w0.heap[tb]?=some (C3 p0 n0)) (h:C5 w0 l x r c p fp) (hnd:fp.Nodup) (hlen:(l.list ++ x :: r.list).length≤1000000) :
 AM Tryz.prog 313 #[.pointer (some ⟨tb,0,none⟩),.pointer p] w0 fun v w'=>Ad w' (.node l x r c) p fp∧AA fp w0 w':=by
 obtain ⟨b,av,pl,pr,fl,fr,rfl,rfl,hb,hl,hr⟩:=h
 have Dw:=C2 hT hb
 obtain ⟨hnb,mU⟩:=List.nodup_cons.1 hnd
 have hnl:∀ k∈fl,k∉[b]:=fun k hk hm=>by
  obtain rfl:=List.mem_singleton.1 hm
  exact hnb (List.mem_append_left _ hk)
 have Pk:∀ k∈fr,k∉[b]:=fun k hk hm=>by
  obtain rfl:=List.mem_singleton.1 hm
  exact hnb (List.mem_append_right _ hk)
 have hlr:∀ k∈fl,k∉fr:=fun k hk hm=>(List.nodup_append.1 mU).2.2 k hk k hm rfl
 have hNb:AK w0 [b]:=AK.cons hb (AK.nil w0)
 have fin:∀ (w':World) (Lx:Value),w'.heap[b]?=some (EO x Lx pl pr c)→HL w' Lx (l.list ++ x :: r.list)→AA [b] w0 w'→Ad w' (.node l x r c) (some ⟨b,0,none⟩) (b :: (fl ++ fr))∧AA (b :: (fl ++ fr)) w0 w':=fun w' Lx h1 h2 ho =>
  ⟨⟨b,Lx,pl,pr,fl,fr,rfl,rfl,h1,h2,hl.keep ho hNb hnl,hr.keep ho hNb Pk⟩,ho.weaken fun k hk=>by obtain rfl:=List.mem_singleton.1 hk;exact List.mem_cons_self⟩
 clear hnd
 have hs:=St.nil w0
 replace hs:=hs.AG hT (by simp)
 replace hs:=hs.AG hb (by simpa using Dw)
 cases l with
 | nil =>
   cases r with
   | nil =>
     obtain ⟨rfl,rfl⟩:=hl
     obtain ⟨rfl,rfl⟩:=hr
     refine AQ Tryz.func313 Tryz.ntmps313 (k:=?_)
     refine Jb ?_
     refine dr [12] hs (k:=?_);intro hX w hs
     refine tks 0 9 ?_
     refine dt 9 hX (k:=?_)
     refine cl (h:=by exact MW x _) (k:=?_)
     rintro v w' ⟨h1,ho⟩;replace hs:=hs.AL ho;obtain ⟨qO,oD,rfl,_⟩:=id h1;obtain ⟨R1,hs,h1⟩:=(h1).read hs rfl
     refine Jb ?_
     refine dn (k:=?_)
     refine tks 10 2 ?_
     refine dt 12 hX (k:=?_)
     repeat' (first|refine Nx.h ?_|(refine st hs (k:=?_);intro w hs)|fail)
     refine dn (k:=?_)
     refine en (k:=?_)
     refine Jd ?_
     refine Iu ?_
     have Cm:=(h1 _ (fun e he=>hs.ro e (by simp [he])))
     refine fin _ _ (hs.get At.head) (by simpa [RB.list] using Cm) (hs.AB [b] (by simp [hT]) (by simp [D0]))
   | node rl rx rr rc =>
     obtain ⟨rfl,rfl⟩:=hl
     have LR:=hr
     obtain ⟨rb,eZ,yM,tT,rfl',wG,rfl,rfl,hrb,hrav,hrl,kZ⟩:=hr
     have Wo:=C2 hT hrb
     have RH:rb≠b:=fun e=>by subst e;exact Pk _ List.mem_cons_self List.mem_cons_self
     replace hs:=hs.AG hrb (by simp [Wo,RH])
     obtain ⟨adR,cpR,rfl,_⟩:=id hrav
     obtain ⟨RR,hs,hrav⟩:=(hrav).read hs rfl
     refine AQ Tryz.func313 Tryz.ntmps313 (k:=?_)
     refine Jb ?_
     refine dr [12] hs (k:=?_);intro hX w hs
     refine tks 0 9 ?_
     refine dt 9 hX (k:=?_)
     refine cl (h:=by exact MW x _) (k:=?_)
     rintro v w' ⟨h1,ho⟩;replace hs:=hs.AL ho;obtain ⟨qO,oD,rfl,_⟩:=id h1;obtain ⟨R1,hs,h1⟩:=(h1).read hs rfl
     refine Jb ?_
     refine dn (k:=?_)
     refine tks 10 2 ?_
     refine dt 12 hX (k:=?_)
     repeat' (first|refine Nx.h ?_|(refine st hs (k:=?_);intro w hs)|fail)
     refine dn (k:=?_)
     refine en (k:=?_)
     repeat' (first|refine vs (k:=?_)|refine Aq ?_|refine Nx.h ?_|refine Et ?_|refine EJ ?_|fail)
     refine dr [19] hs (k:=?_);intro hX w hs
     refine tks 0 16 ?_
     refine dt 16 hX (k:=?_)
     refine cl (h:=by exact NF _ _ _ _ (by simp) (by simp [RB.list]) (by simp only [RB.list,List.length_append,List.length_cons,List.length_nil] at hlen ⊢;omega) _ (h1 _ (fun e he=>hs.ro e (by simp [he]))) (hrav _ (fun e he=>hs.ro e (by simp [he])))) (k:=?_)
     rintro v w' ⟨h3,ho⟩;replace hs:=hs.AL ho;obtain ⟨y9,qS,rfl,_⟩:=id h3;obtain ⟨R3,hs,h3⟩:=(h3).read hs rfl
     refine Jb ?_
     refine dn (k:=?_)
     refine tks 17 2 ?_
     refine dt 19 hX (k:=?_)
     repeat' (first|refine Nx.h ?_|(refine st hs (k:=?_);intro w hs)|fail)
     refine dn (k:=?_)
     refine en (k:=?_)
     skip
     refine Iu ?_
     have Cm:=(h3 _ (fun e he=>hs.ro e (by simp [he])))
     refine fin _ _ (hs.get (At.tail At.head)) (by simpa [RB.list] using Cm) (hs.AB [b] (by simp [hT,hrb]) (by simp [D0]))
 | node ll lx lr lc =>
   cases r with
   | nil =>
     have hl0:=hl
     obtain ⟨lb,Vv,kA,qF,qJ,p7,rfl,rfl,hlb,hlav,Gc,nY⟩:=hl
     have hlt:=C2 hT hlb
     have RA:lb≠b:=fun e=>by subst e;exact hnl _ List.mem_cons_self List.mem_cons_self
     replace hs:=hs.AG hlb (by simp [hlt,RA])
     obtain ⟨adL,cpL,rfl,_⟩:=id hlav
     obtain ⟨rfl,rfl⟩:=hr
     obtain ⟨RL,hs,hlav⟩:=(hlav).read hs rfl
     refine AQ Tryz.func313 Tryz.ntmps313 (k:=?_)
     refine Jb ?_
     refine dr [12] hs (k:=?_);intro hX w hs
     refine tks 0 9 ?_
     refine dt 9 hX (k:=?_)
     refine cl (h:=by exact MW x _) (k:=?_)
     rintro v w' ⟨h1,ho⟩;replace hs:=hs.AL ho;obtain ⟨qO,oD,rfl,_⟩:=id h1;obtain ⟨R1,hs,h1⟩:=(h1).read hs rfl
     refine Jb ?_
     refine dn (k:=?_)
     refine tks 10 2 ?_
     refine dt 12 hX (k:=?_)
     repeat' (first|refine Nx.h ?_|(refine st hs (k:=?_);intro w hs)|fail)
     refine dn (k:=?_)
     refine en (k:=?_)
     refine Je ?_
     refine dr [19] hs (k:=?_);intro hX w hs
     refine tks 0 16 ?_
     refine dt 16 hX (k:=?_)
     refine cl (h:=by exact NF _ _ _ _ (by simp [RB.list]) (by simp) (by simp only [RB.list,List.length_append,List.length_cons,List.length_nil] at hlen ⊢;omega) _ (hlav _ (fun e he=>hs.ro e (by simp [he]))) (h1 _ (fun e he=>hs.ro e (by simp [he])))) (k:=?_)
     rintro v w' ⟨h2,ho⟩;replace hs:=hs.AL ho;obtain ⟨ad2,tR,rfl,_⟩:=id h2;obtain ⟨R2,hs,h2⟩:=(h2).read hs rfl
     refine Jb ?_
     refine dn (k:=?_)
     refine tks 17 2 ?_
     refine dt 19 hX (k:=?_)
     repeat' (first|refine Nx.h ?_|(refine st hs (k:=?_);intro w hs)|fail)
     refine dn (k:=?_)
     refine en (k:=?_)
     refine Jd ?_
     refine Iu ?_
     have Cm:=(h2 _ (fun e he=>hs.ro e (by simp [he])))
     refine fin _ _ (hs.get (At.tail At.head)) (by simpa [RB.list] using Cm) (hs.AB [b] (by simp [hT,hlb]) (by simp [D0]))
   | node rl rx rr rc =>
     have hl0:=hl
     obtain ⟨lb,Vv,kA,qF,qJ,p7,rfl,rfl,hlb,hlav,Gc,nY⟩:=hl
     have hlt:=C2 hT hlb
     have RA:lb≠b:=fun e=>by subst e;exact hnl _ List.mem_cons_self List.mem_cons_self
     replace hs:=hs.AG hlb (by simp [hlt,RA])
     obtain ⟨adL,cpL,rfl,_⟩:=id hlav
     have LR:=hr
     obtain ⟨rb,eZ,yM,tT,rfl',wG,rfl,rfl,hrb,hrav,hrl,kZ⟩:=hr
     have Wo:=C2 hT hrb
     have RH:rb≠b:=fun e=>by subst e;exact Pk _ List.mem_cons_self List.mem_cons_self
     have nG:rb≠lb:=fun e=>by subst e;exact hlr _ List.mem_cons_self List.mem_cons_self
     replace hs:=hs.AG hrb (by simp [Wo,RH,nG])
     obtain ⟨adR,cpR,rfl,_⟩:=id hrav
     obtain ⟨RL,hs,hlav⟩:=(hlav).read hs rfl
     obtain ⟨RR,hs,hrav⟩:=(hrav).read hs rfl
     refine AQ Tryz.func313 Tryz.ntmps313 (k:=?_)
     refine Jb ?_
     refine dr [12] hs (k:=?_);intro hX w hs
     refine tks 0 9 ?_
     refine dt 9 hX (k:=?_)
     refine cl (h:=by exact MW x _) (k:=?_)
     rintro v w' ⟨h1,ho⟩;replace hs:=hs.AL ho;obtain ⟨qO,oD,rfl,_⟩:=id h1;obtain ⟨R1,hs,h1⟩:=(h1).read hs rfl
     refine Jb ?_
     refine dn (k:=?_)
     refine tks 10 2 ?_
     refine dt 12 hX (k:=?_)
     repeat' (first|refine Nx.h ?_|(refine st hs (k:=?_);intro w hs)|fail)
     refine dn (k:=?_)
     refine en (k:=?_)
     refine Je ?_
     refine dr [19] hs (k:=?_);intro hX w hs
     refine tks 0 16 ?_
     refine dt 16 hX (k:=?_)
     refine cl (h:=by exact NF _ _ _ _ (by simp [RB.list]) (by simp) (by simp only [RB.list,List.length_append,List.length_cons,List.length_nil] at hlen ⊢;omega) _ (hlav _ (fun e he=>hs.ro e (by simp [he]))) (h1 _ (fun e he=>hs.ro e (by simp [he])))) (k:=?_)
     rintro v w' ⟨h2,ho⟩;replace hs:=hs.AL ho;obtain ⟨ad2,tR,rfl,_⟩:=id h2;obtain ⟨R2,hs,h2⟩:=(h2).read hs rfl
     refine Jb ?_
     refine dn (k:=?_)
     refine tks 17 2 ?_
     refine dt 19 hX (k:=?_)
     repeat' (first|refine Nx.h ?_|(refine st hs (k:=?_);intro w hs)|fail)
     refine dn (k:=?_)
     refine en (k:=?_)
     refine Je ?_
     refine dr [19] hs (k:=?_);intro hX w hs
     refine tks 0 16 ?_
     refine dt 16 hX (k:=?_)
     refine cl (h:=by exact NF _ _ _ _ (by simp) (by simp [RB.list]) (by simp only [RB.list,List.length_append,List.length_cons,List.length_nil] at hlen ⊢;omega) _ (h2 _ (fun e he=>hs.ro e (by simp [he]))) (hrav _ (fun e he=>hs.ro e (by simp [he])))) (k:=?_)
     rintro v w' ⟨h3,ho⟩;replace hs:=hs.AL ho;obtain ⟨y9,qS,rfl,_⟩:=id h3;obtain ⟨R3,hs,h3⟩:=(h3).read hs rfl
     refine Jb ?_
     refine dn (k:=?_)
     refine tks 17 2 ?_
     refine dt 19 hX (k:=?_)
     repeat' (first|refine Nx.h ?_|(refine st hs (k:=?_);intro w hs)|fail)
     refine dn (k:=?_)
     refine en (k:=?_)
     skip
     refine Iu ?_
     have Cm:=(h3 _ (fun e he=>hs.ro e (by simp [he])))
     refine fin _ _ (hs.get (At.tail (At.tail At.head))) (by simpa [RB.list] using Cm) (hs.AB [b] (by simp [hT,hlb,hrb]) (by simp [D0]))
theorem perm_turn (b u:Nat) (A B C:List Nat):(u :: ((b :: (A ++ B)) ++ C)).Perm (b :: (A ++ (u :: (B ++ C)))):=by
 have h1:(u :: b :: (A ++ (B ++ C))).Perm (b :: u :: (A ++ (B ++ C))):=List.Perm.swap _ _ _
 have h2:(b :: u :: (A ++ (B ++ C))).Perm (b :: (A ++ (u :: (B ++ C)))):=List.Perm.cons _ List.perm_middle.symm
 have:=h1.trans h2
 simpa using this
theorem AK.lt {w:World} {F:List Nat} (h:AK w F):∀ k∈F,k < w.heap.size:=fun k hk=>by
 obtain ⟨cs,fz,h⟩:=h k hk
 exact lt_of_block h
def Cg (w0:World) (fp:List Nat) (t':RB Int) (v:Value) (w':World):Prop :=
 ∃ p' C9,v = .pointer p'∧Ad w' t' p' C9∧C9.Nodup∧(∀ k∈C9,k∈fp∨w0.heap.size≤k)∧AA fp w0 w'
theorem Ke (tb:Nat) (p0:Option Addr) (n0:Int) (l:RB Int) (x:Int) (rl:RB Int) (y:Int) (rr:RB Int) (c c2:Bool) (p:Option Addr) (fp:List Nat) (w0:World) (hT:w0.heap[tb]?=some (C3 p0 n0)) (h:C5 w0 l x (.node rl y rr c2) c p fp) (hnd:fp.Nodup) (hlen:(l.list ++ x :: (rl.list ++ y :: rr.list)).length≤1000000) :
 AM Tryz.prog 315 #[.pointer (some ⟨tb,0,none⟩),.pointer p] w0 fun v w'=>Cg w0 fp (.node (.node l x rl true) y rr c) v w':=by
 obtain ⟨b,av,pl,pr,fl,fr,rfl,rfl,hb,hl,u,JV,gG,vZ,frl,KJ,rfl,rfl,hu,_,hrl,VE⟩:=h
 have hp:=perm_turn b u fl frl KJ
 have Qc:=hp.nodup_iff.2 hnd
 have hNb:AK w0 [u,b]:=AK.cons hu (AK.cons hb (AK.nil w0))
 simp only [List.length_append,List.length_cons] at hlen
 obtain ⟨d1,d2,d3,d4,d5,d6,d7,d8⟩:u≠b∧(∀ k∈fl,k∉[u,b])∧(∀ k∈frl,k∉[u,b])∧(∀ k∈KJ,k∉[u,b])∧(b :: (fl ++ frl)).Nodup∧u∉b :: (fl ++ frl)∧(∀ k∈KJ,k∉b :: (fl ++ frl))∧(u :: ((b :: (fl ++ frl)) ++ KJ)).Nodup:=by
  simp only [List.cons_append,List.append_assoc,List.nodup_cons,List.nodup_append,List.mem_append,List.mem_cons,List.not_mem_nil,or_false] at Qc ⊢
  grind
 have hs:=St.nil w0
 replace hs:=hs.AG hb (by simp)
 replace hs:=hs.AG hu (by simpa using d1)
 refine AQ Tryz.func315 Tryz.ntmps315 (k:=?_)
 repeat' (first|refine Sa ?_|(refine st hs (k:=?_);intro w hs)|fail)
 have AJ:AA [u,b] w0 _:=hs.AB [u,b] (by simp) (by simp [D0])
 have Bw:=hs.get (At.tail At.head)
 have Up:=hs.get At.head
 have E5:=hl.keep AJ hNb d2
 have V7:=hrl.keep AJ hNb d3
 have lM:=VE.keep AJ hNb d4
 have CI:=head_keep hT AJ hNb
 clear hs
 refine cl (h:=by exact ED tb p0 n0 l x rl true _ _ _ CI ⟨b,av,pl,gG,fl,frl,rfl,rfl,Bw,E5,V7⟩ d5 (by simp only [List.length_append,List.length_cons];omega)) (k:=?_)
 rintro v w' ⟨Bl,AN⟩
 have Mk:AK _ (b :: (fl ++ frl)):=C5.nodes ⟨b,av,pl,gG,fl,frl,rfl,rfl,Bw,E5,V7⟩
 have Gm:=AN.block Up d6
 have nN:=lM.keep AN Mk d7
 have K5:=head_keep CI AN Mk
 have hs:=St.nil w'
 refine Ja ?_
 refine cl (h:=by exact ED tb p0 n0 (.node l x rl true) y rr c _ _ _ K5 ⟨u,JV,_,vZ,_,KJ,rfl,rfl,Gm,Bl,nN⟩ d8 (by simp only [RB.list,List.length_append,List.length_cons];omega)) (k:=?_)
 rintro v w'' ⟨Fj,AS⟩
 have hs:=St.nil w''
 refine Ja ?_
 refine AF ?_
 have e:∀ k,k∈u :: ((b :: (fl ++ frl)) ++ KJ)→k∈b :: (fl ++ (u :: (frl ++ KJ))):=fun k hk=>hp.mem_iff.1 hk
 have o1:AA (b :: (fl ++ (u :: (frl ++ KJ)))) w0 _:=AJ.weaken (by simp)
 have o2:=o1.step AN (fun k hk => .inl (e k (List.mem_cons_of_mem _ (List.mem_append_left _ hk))))
 exact ⟨_,_,rfl,Fj,d8,fun k hk => .inl (e k hk),o2.step AS (fun k hk => .inl (e k hk))⟩
theorem GQ (tb:Nat) (p0:Option Addr) (n0:Int) (ll:RB Int) (y:Int) (lr:RB Int) (x:Int) (r:RB Int) (c c2:Bool) (p:Option Addr) (fp:List Nat) (w0:World) (hT:w0.heap[tb]?=some (C3 p0 n0)) (h:C5 w0 (.node ll y lr c2) x r c p fp) (hnd:fp.Nodup) (hlen:(ll.list ++ y :: (lr.list ++ x :: r.list)).length≤1000000) :
 AM Tryz.prog 316 #[.pointer (some ⟨tb,0,none⟩),.pointer p] w0 fun v w'=>Cg w0 fp (.node ll y (.node lr x r true) c) v w':=by
 obtain ⟨b,av,pl,pr,fl,fr,rfl,rfl,hb,⟨u,JV,UH,Pf,fll,flr,rfl,rfl,hu,_,Gc,hlr⟩,hr⟩:=h
 have hp:=(perm_turn u b fll flr fr).symm
 have Qc:=hp.nodup_iff.2 hnd
 have hNb:AK w0 [u,b]:=AK.cons hu (AK.cons hb (AK.nil w0))
 simp only [List.length_append,List.length_cons] at hlen
 obtain ⟨d1,d2,d3,d4,d5,d6,d7,d8⟩:u≠b∧(∀ k∈fr,k∉[u,b])∧(∀ k∈flr,k∉[u,b])∧(∀ k∈fll,k∉[u,b])∧(b :: (flr ++ fr)).Nodup∧u∉b :: (flr ++ fr)∧(∀ k∈fll,k∉b :: (flr ++ fr))∧(u :: (fll ++ (b :: (flr ++ fr)))).Nodup:=by
  simp only [List.cons_append,List.append_assoc,List.nodup_cons,List.nodup_append,List.mem_append,List.mem_cons,List.not_mem_nil,or_false] at Qc ⊢
  grind
 have hs:=St.nil w0
 replace hs:=hs.AG hb (by simp)
 replace hs:=hs.AG hu (by simpa using d1)
 refine AQ Tryz.func316 Tryz.ntmps316 (k:=?_)
 repeat' (first|refine Sa ?_|(refine st hs (k:=?_);intro w hs)|fail)
 have AJ:AA [u,b] w0 _:=hs.AB [u,b] (by simp) (by simp [D0])
 have Bw:=hs.get (At.tail At.head)
 have Up:=hs.get At.head
 have hrw:=hr.keep AJ hNb d2
 have W9:=hlr.keep AJ hNb d3
 have nZ:=Gc.keep AJ hNb d4
 have CI:=head_keep hT AJ hNb
 clear hs
 refine cl (h:=by exact ED tb p0 n0 lr x r true _ _ _ CI ⟨b,av,Pf,pr,flr,fr,rfl,rfl,Bw,W9,hrw⟩ d5 (by simp only [List.length_append,List.length_cons];omega)) (k:=?_)
 rintro v w' ⟨Bl,AN⟩
 have Mk:AK _ (b :: (flr ++ fr)):=C5.nodes ⟨b,av,Pf,pr,flr,fr,rfl,rfl,Bw,W9,hrw⟩
 have Gm:=AN.block Up d6
 have lH:=nZ.keep AN Mk d7
 have K5:=head_keep CI AN Mk
 have hs:=St.nil w'
 refine Ja ?_
 refine cl (h:=by exact ED tb p0 n0 ll y (.node lr x r true) c _ _ _ K5 ⟨u,JV,UH,_,fll,_,rfl,rfl,Gm,lH,Bl⟩ d8 (by simp only [RB.list,List.length_append,List.length_cons];omega)) (k:=?_)
 rintro v w'' ⟨Fj,AS⟩
 have hs:=St.nil w''
 refine Ja ?_
 refine AF ?_
 have e:∀ k,k∈u :: (fll ++ (b :: (flr ++ fr)))→k∈b :: ((u :: (fll ++ flr)) ++ fr):=fun k hk=>hp.mem_iff.1 hk
 have o1:AA (b :: ((u :: (fll ++ flr)) ++ fr)) w0 _:=AJ.weaken (by simp)
 have o2:=o1.step AN (fun k hk => .inl (e k (List.mem_cons_of_mem _ (List.mem_append_right _ hk))))
 exact ⟨_,_,rfl,Fj,d8,fun k hk => .inl (e k hk),o2.step AS (fun k hk => .inl (e k hk))⟩
theorem GH (a:RB Int) (x:Int) (b:RB Int) (c1:Bool) (y:Int) (d:RB Int) (z:Int) (e:RB Int) (c2 c:Bool) (p:Option Addr) (fp:List Nat) (w0:World) (h:Ad w0 (.node (.node a x b c1) y (.node d z e c2) c) p fp) (hnd:fp.Nodup) :
 AM Tryz.prog 317 #[.pointer p] w0 fun v w'=>Ad w' (.node (.node a x b !c1) y (.node d z e !c2) !c) p fp∧AA fp w0 w':=by
 obtain ⟨m,av,_,_,_,_,rfl,rfl,hm,Cm,⟨u,JV,pa,pb,fa,fb,rfl,rfl,hu,Mi,ha,hb⟩,⟨v,x5,pd,pe,fd,fe,rfl,rfl,hv,mX,hd,he⟩⟩:=h
 have hNb:AK w0 [v,u,m]:=AK.cons hv (AK.cons hu (AK.cons hm (AK.nil w0)))
 obtain ⟨d1,d2,d3,d4,d5,d6,d7⟩:u≠m∧v≠m∧v≠u∧(∀ k∈fa,k∉[v,u,m])∧(∀ k∈fb,k∉[v,u,m])∧(∀ k∈fd,k∉[v,u,m])∧(∀ k∈fe,k∉[v,u,m]):=by
  simp only [List.cons_append,List.append_assoc,List.nodup_cons,List.nodup_append,List.mem_append,List.mem_cons,List.not_mem_nil,or_false] at hnd ⊢
  grind
 have hs:=St.nil w0
 replace hs:=hs.AG hm (by simp)
 replace hs:=hs.AG hu (by simpa using d1)
 replace hs:=hs.AG hv (by simp [d2,d3])
 refine AQ Tryz.func317 Tryz.ntmps317 (k:=?_)
 repeat' (first|refine Sa ?_|(refine st hs (k:=?_);intro w hs)|fail)
 refine dr [14] hs (k:=?_);intro hX w hs
 refine tks 0 14 ?_
 refine dt 14 hX (k:=?_)
 repeat' (first|refine Nx.h ?_|(refine st hs (k:=?_);intro w hs)|fail)
 refine dn (k:=?_)
 refine en (k:=?_)
 refine Jb ?_
 refine dr [14] hs (k:=?_);intro hX w hs
 refine tks 0 14 ?_
 refine dt 14 hX (k:=?_)
 repeat' (first|refine Nx.h ?_|(refine st hs (k:=?_);intro w hs)|fail)
 refine dn (k:=?_)
 refine en (k:=?_)
 skip
 refine Iu ?_
 have AJ:AA [v,u,m] w0 _:=hs.AB [v,u,m] (by simp) (by simp [D0])
 refine ⟨⟨m,av,_,_,_,_,rfl,rfl,hs.get (At.tail (At.tail At.head)),Cm.keep AJ hNb,⟨u,JV,pa,pb,fa,fb,rfl,rfl,hs.get (At.tail At.head),Mi.keep AJ hNb,ha.keep AJ hNb d4,hb.keep AJ hNb d5⟩,⟨v,x5,pd,pe,fd,fe,rfl,rfl,hs.get At.head,mX.keep AJ hNb,hd.keep AJ hNb d6,he.keep AJ hNb d7⟩⟩,AJ.weaken (by simp)⟩
structure Has (w0:World) (tb:Nat) (p0:Option Addr) (n0:Int) (fp:List Nat) (t:RB Int) (p:Option Addr) (w:World):Prop where
 tree:∃ C9,Ad w t p C9∧C9.Nodup∧(∀ k∈C9,k∈fp∨w0.heap.size≤k)∧AA fp w0 w
 head:w.heap[tb]?=some (C3 p0 n0)
theorem Has.only {w0 w w':World} {tb:Nat} {p0:Option Addr} {n0:Int} {fp:List Nat} {t:RB Int} {p:Option Addr} (h:Has w0 tb p0 n0 fp t p w) (ho:AA [] w w'):Has w0 tb p0 n0 fp t p w':=by
 obtain ⟨⟨C9,h1,h2,h3,h4⟩,h5⟩:=h
 exact ⟨⟨C9,h1.keep ho (AK.nil w) (fun k _=>by simp),h2,h3,h4.step ho (by simp)⟩,head_keep h5 ho (AK.nil w)⟩
theorem Has.next {w0 w w':World} {tb:Nat} {p0:Option Addr} {n0:Int} {fp DR:List Nat} {t t':RB Int} {p:Option Addr} {v:Value} (h1:Ad w t p DR) (h2:∀ k∈DR,k∈fp∨w0.heap.size≤k) (h3:AA fp w0 w) (h4:w.heap[tb]?=some (C3 p0 n0)) (k:Cg w DR t' v w') :
 ∃ p',v = .pointer p'∧Has w0 tb p0 n0 fp t' p' w':=by
 obtain ⟨p',C9,rfl,k1,k2,k3,k4⟩:=k
 refine ⟨p',rfl,⟨C9,k1,k2,fun i hi=>?_,h3.step k4 h2⟩,head_keep h4 k4 h1.nodes⟩
 have:=h3.size
 rcases k3 i hi with h | h
 ·exact h2 i h
 ·exact .inr om
theorem Ix (l:RB Int) (x:Int) (r:RB Int) (c:Bool):∃ l' x' r' c',RB.DX (.node l x r c) = .node l' x' r' c':=by
 unfold RB.DX
 cases r with
 | nil=>exact ⟨_,_,_,_,rfl⟩
 | node rl y rr d =>
   cases d <;> cases h:l.red <;> simp only [RB.Az,RB.Au,RB.BN,h,Bool.not_true,Bool.not_false,Bool.and_true,Bool.and_false,Bool.and_self,cond_true,cond_false,RB.GN] <;> exact ⟨_,_,_,_,rfl⟩
theorem Ia (l:RB Int) (x:Int) (r:RB Int) (c:Bool):∃ l' x' r' c',RB.Dz (.node l x r c) = .node l' x' r' c':=by
 unfold RB.Dz
 cases l with
 | nil=>exact ⟨_,_,_,_,rfl⟩
 | node rl y rr d =>
   cases d <;> cases h:rl.red <;> simp only [RB.Az,RB.Au,RB.BN,h,Bool.not_true,Bool.not_false,Bool.and_true,Bool.and_false,Bool.and_self,cond_true,cond_false,RB.Cz] <;> exact ⟨_,_,_,_,rfl⟩
theorem Fz (tb:Nat) (p0:Option Addr) (n0:Int) (l:RB Int) (x:Int) (r:RB Int) (c:Bool) (p:Option Addr) (fp:List Nat) (w0:World) (hT:w0.heap[tb]?=some (C3 p0 n0)) (h:C5 w0 l x r c p fp) (hnd:fp.Nodup) (hlen:(l.list ++ x :: r.list).length≤1000000) :
 AM Tryz.prog 310 #[.pointer (some ⟨tb,0,none⟩),.pointer p] w0 fun v w'=>Cg w0 fp (RB.mend (.node l x r c)) v w':=by
 have hs:=St.nil w0
 refine AQ Tryz.func310 Tryz.ntmps310 (k:=?_)
 refine Ja ?_
 clear hs
 refine cl (h:=by exact ED tb p0 n0 l x r c _ _ _ hT h hnd hlen) (k:=?_)
 rintro v w1 ⟨Bl,AJ⟩
 have hH:Has w0 tb p0 n0 fp (.node l x r c) p w1:=⟨⟨fp,Bl,hnd,fun k hk => .inl hk,AJ⟩,head_keep hT AJ h.nodes⟩
 clear Bl AJ
 refine XS.nil ?_
 refine Dt ?_
 refine Ag ?_
 refine Ag ?_
 refine B8 (fun _:Unit=>[(0,.pointer (some ⟨tb,0,none⟩)),(1,.pointer p),(4,.pointer none),(20,.bool (r.red && !l.red))]) (fun _ w=>Has w0 tb p0 n0 fp (.node l x r c) p w) ?_ ?_
 ·obtain ⟨⟨DR,⟨b,av,pl,pr,fl,fr,rfl,rfl,hb,Cm,hl,hr⟩,J3,hsub,ho⟩,hd⟩:=hH
  have hH:Has w0 tb p0 n0 fp (.node l x r c) (some ⟨b,0,none⟩) w1:=⟨⟨_,⟨b,av,pl,pr,fl,fr,rfl,rfl,hb,Cm,hl,hr⟩,J3,hsub,ho⟩,hd⟩
  have hs:=(St.nil w1).AG hb (by simp)
  refine Jk ?_
  have AN:AA [] w1 _:=hs.AB [] (by simp [hb]) (by simp [D0])
  refine AW hs (h:=by exact Bc r pr fr _ (hr.keep AN (AK.nil _) (by simp))) (k:=?_);intro w' ho hs
  generalize hq:r.red=q
  cases q
  ·refine Jj ?_
   exact AP () Aa (hH.only (hs.AB [] (by simp [hb]) (by simp [D0])))
  ·refine Jf ?_
   have AN:AA [] w1 _:=hs.AB [] (by simp [hb]) (by simp [D0])
   refine AW hs (h:=by exact Bc l pl fl _ (hl.keep AN (AK.nil _) (by simp))) (k:=?_);intro w' ho hs
   generalize GZ:l.red=q2
   refine Jc ?_
   exact AP () Aa (hH.only (hs.AB [] (by simp [hb]) (by simp [D0])))
 clear hH
 rintro _ env w hH
 refine B8 (fun s:Option Addr=>[(0,.pointer (some ⟨tb,0,none⟩)),(1,.pointer s),(4,.pointer none)]) (fun s w=>Has w0 tb p0 n0 fp (RB.DX (.node l x r c)) s w) ?_ ?_
 ·generalize hq:(r.red && !l.red)=q
  cases q
  ·refine Jg ?_
   refine AP p Aa ?_
   unfold RB.DX
   rw [RB.Az,RB.Au,hq]
   exact hH
  ·obtain ⟨⟨DR,h1,h2,h3,h4⟩,h5⟩:=hH
   simp only [Bool.and_eq_true,Bool.not_eq_true'] at hq
   obtain ⟨rl,y,rr,rfl⟩:=RB.Br hq.1
   have hs:=St.nil w
   refine Ji ?_
   refine cl (h:=by exact Ke tb p0 n0 l x rl y rr c true _ _ _ h5 h1.Lr h2 hlen) (k:=?_)
   rintro v w' hv
   obtain ⟨p',rfl,hH⟩:=Has.next h1 h3 h4 h5 hv
   have hs:=St.nil w'
   refine Jc ?_
   refine AP p' Aa ?_
   unfold RB.DX
   rw [RB.Az,RB.Au,RB.BN,hq.2]
   exact hH
 obtain ⟨l1,x1,r1,c1,e1⟩:=Ix l x r c
 have bL:(l1.list ++ x1 :: r1.list).length≤1000000:=by
  have h1:(RB.DX (.node l x r c)).list=l.list ++ x :: r.list:=by
   unfold RB.DX
   cases (RB.red _ && _) <;> simp only [cond_true,cond_false,RB.Jv,RB.list]
  rw [e1] at h1
  rw [← h1] at hlen
  exact hlen
 rintro p1 env w hH
 rw [e1] at hH
 refine Ag ?_
 refine Ag ?_
 refine B8 (fun _:Unit=>[(0,.pointer (some ⟨tb,0,none⟩)),(1,.pointer p1),(4,.pointer none),(38,.bool (l1.red && l1.left.red))]) (fun _ w=>Has w0 tb p0 n0 fp (.node l1 x1 r1 c1) p1 w) ?_ ?_
 ·obtain ⟨⟨DR,⟨b,av,pl,pr,fl,fr,rfl,rfl,hb,Cm,hl,hr⟩,J3,hsub,ho⟩,hd⟩:=hH
  have hH:Has w0 tb p0 n0 fp (.node l1 x1 r1 c1) (some ⟨b,0,none⟩) w:=⟨⟨_,⟨b,av,pl,pr,fl,fr,rfl,rfl,hb,Cm,hl,hr⟩,J3,hsub,ho⟩,hd⟩
  cases hq:l1.red
  ·have hs:=(St.nil w).AG hb (by simp)
   refine Jk ?_
   have AN:AA [] w _:=hs.AB [] (by simp [hb]) (by simp [D0])
   refine AW hs (h:=by exact Bc l1 pl fl _ (hl.keep AN (AK.nil _) (by simp))) (k:=?_);intro w' ho hs
   rw [hq]
   refine Jj ?_
   exact AP () Aa (hH.only (hs.AB [] (by simp [hb]) (by simp [D0])))
  ·obtain ⟨ll,y,lr,rfl⟩:=RB.Br hq
   have hl0:=hl
   obtain ⟨u,JV,UH,Pf,fll,flr,rfl,rfl,hu,Mi,Gc,hlr⟩:=hl
   have RO:u≠b:=fun e=>by
    subst e
    simp at J3
   have hs:=((St.nil w).AG hb (by simp)).AG hu (by simpa using RO)
   refine Jk ?_
   have AN:AA [] w _:=hs.AB [] (by simp [hb,hu]) (by simp [D0])
   refine AW hs (h:=by exact Bc _ _ _ _ (hl0.keep AN (AK.nil _) (by simp))) (k:=?_);intro w' ho hs
   rw [hq]
   refine Jf ?_
   have AN:AA [] w _:=hs.AB [] (by simp [hb,hu]) (by simp [D0])
   refine AW hs (h:=by exact Bc _ _ _ _ (Gc.keep AN (AK.nil _) (by simp))) (k:=?_);intro w' ho hs
   rw [RB.Au]
   generalize GZ:ll.red=q2
   refine Jc ?_
   exact AP () Aa (hH.only (hs.AB [] (by simp [hb,hu]) (by simp [D0])))
 clear hH
 rintro _ env w hH
 refine B8 (fun s:Option Addr=>[(0,.pointer (some ⟨tb,0,none⟩)),(1,.pointer s),(4,.pointer none)]) (fun s w=>Has w0 tb p0 n0 fp (RB.Dz (.node l1 x1 r1 c1)) s w) ?_ ?_
 ·generalize hq:(l1.red && l1.left.red)=q
  cases q
  ·refine Jg ?_
   refine AP p1 Aa ?_
   unfold RB.Dz
   rw [RB.Au,hq]
   exact hH
  ·obtain ⟨⟨DR,h1,h2,h3,h4⟩,h5⟩:=hH
   simp only [Bool.and_eq_true] at hq
   obtain ⟨ll,y,lr,rfl⟩:=RB.Br hq.1
   have hs:=St.nil w
   refine Ji ?_
   refine cl (h:=by exact GQ tb p0 n0 ll y lr x1 r1 c1 true _ _ _ h5 h1.Lr h2 (by simpa [RB.list] using bL)) (k:=?_)
   rintro v w' hv
   obtain ⟨p',rfl,hH⟩:=Has.next h1 h3 h4 h5 hv
   have hs:=St.nil w'
   refine Jc ?_
   refine AP p' Aa ?_
   unfold RB.Dz
   rw [RB.Au,RB.BN,hq.2]
   exact hH
 obtain ⟨l2,x2,r2,c2,e2⟩:=Ia l1 x1 r1 c1
 rintro p2 env w hH
 rw [e2] at hH
 refine Ag ?_
 refine Ag ?_
 refine B8 (fun _:Unit=>[(0,.pointer (some ⟨tb,0,none⟩)),(1,.pointer p2),(4,.pointer none),(53,.bool (l2.red && r2.red))]) (fun _ w=>Has w0 tb p0 n0 fp (.node l2 x2 r2 c2) p2 w) ?_ ?_
 ·obtain ⟨⟨DR,⟨b,av,pl,pr,fl,fr,rfl,rfl,hb,Cm,hl,hr⟩,J3,hsub,ho⟩,hd⟩:=hH
  have hH:Has w0 tb p0 n0 fp (.node l2 x2 r2 c2) (some ⟨b,0,none⟩) w:=⟨⟨_,⟨b,av,pl,pr,fl,fr,rfl,rfl,hb,Cm,hl,hr⟩,J3,hsub,ho⟩,hd⟩
  have hs:=(St.nil w).AG hb (by simp)
  refine Jk ?_
  have AN:AA [] w _:=hs.AB [] (by simp [hb]) (by simp [D0])
  refine AW hs (h:=by exact Bc l2 pl fl _ (hl.keep AN (AK.nil _) (by simp))) (k:=?_);intro w' ho hs
  generalize hq:l2.red=q
  cases q
  ·refine Jj ?_
   exact AP () Aa (hH.only (hs.AB [] (by simp [hb]) (by simp [D0])))
  ·refine Jf ?_
   have AN:AA [] w _:=hs.AB [] (by simp [hb]) (by simp [D0])
   refine AW hs (h:=by exact Bc r2 pr fr _ (hr.keep AN (AK.nil _) (by simp))) (k:=?_);intro w' ho hs
   generalize GZ:r2.red=q2
   refine Jc ?_
   exact AP () Aa (hH.only (hs.AB [] (by simp [hb]) (by simp [D0])))
 clear hH
 rintro _ env w hH
 refine B8 (fun _:Unit=>[(0,.pointer (some ⟨tb,0,none⟩)),(1,.pointer p2),(4,.pointer none)]) (fun _ w=>Has w0 tb p0 n0 fp (RB.Dy (.node l2 x2 r2 c2)) p2 w) ?_ ?_
 ·generalize hq:(l2.red && r2.red)=q
  cases q
  ·refine Jg ?_
   refine AP () Aa ?_
   unfold RB.Dy
   rw [RB.Au,RB.Az,hq]
   exact hH
  ·obtain ⟨⟨DR,h1,h2,h3,h4⟩,h5⟩:=hH
   simp only [Bool.and_eq_true] at hq
   obtain ⟨ll,y,lr,rfl⟩:=RB.Br hq.1
   obtain ⟨rl,z,rr,rfl⟩:=RB.Br hq.2
   have hs:=St.nil w
   refine Ji ?_
   refine cl (h:=by exact GH ll y lr true x2 rl z rr true c2 p2 DR _ h1 h2) (k:=?_)
   rintro v w' ⟨k1,k2⟩
   have hs:=St.nil w'
   refine Jb ?_
   refine AP () Aa ⟨⟨DR,k1,h2,h3,h4.step k2 h3⟩,head_keep h5 k2 h1.nodes⟩
 rintro _ env w hH
 have e3:RB.Dy (.node l2 x2 r2 c2)=RB.mend (.node l x r c):=by rw [← e2,← e1];rfl
 rw [e3] at hH
 have hs:=St.nil w
 obtain ⟨⟨DR,h1,h2,h3,h4⟩,h5⟩:=hH
 refine Ja ?_
 refine AF ?_
 exact ⟨_,DR,rfl,h1,h2,h3,h4.step (hs.AD rfl) (by simp)⟩
theorem Cg.up {w0 w2 w3:World} {fp Dx:List Nat} {t:RB Int} {v:Value} (k:Cg w2 Dx t v w3) (ho:AA fp w0 w2) (hs:∀ k∈Dx,k∈fp∨w0.heap.size≤k):Cg w0 fp t v w3:=by
 obtain ⟨p',C9,rfl,k1,k2,k3,k4⟩:=k
 refine ⟨p',C9,rfl,k1,k2,fun i hi=>?_,ho.step k4 hs⟩
 have:=ho.size
 rcases k3 i hi with h | h
 ·exact hs i h
 ·exact .inr om
theorem Ow {w w' w2:World} {b:Nat} {y y2:Int} {av PC:Value} {pl pr p':Option Addr} {c c2:Bool} {fl fr:List Nat} {r l':RB Int} (hb:w.heap[b]?=some (EO y av pl pr c)) (hl:AK w fl) (hr:Ad w r pr fr) (hnd:(b :: (fl ++ fr)).Nodup)
 (k:Cg w fl l' (.pointer p') w') (ho:AA [b] w' w2) (Dj:w2.heap[b]?=some (EO y2 PC p' pr c2)) :
 ∃ Dx,C5 w2 l' y2 r c2 (some ⟨b,0,none⟩) Dx∧Dx.Nodup∧(∀ i∈Dx,i∈b :: (fl ++ fr)∨w.heap.size≤i)∧AA (b :: (fl ++ fr)) w w2:=by
 obtain ⟨p,C9,e,k1,k2,k3,k4⟩:=k
 obtain rfl:p'=p:=by injection e
 have y7:=lt_of_block hb
 have yO:=hr.nodes.lt
 simp only [List.nodup_cons,List.nodup_append,List.mem_append] at hnd
 obtain ⟨d1,d2,d3,d4⟩:=hnd
 have e1:b∉C9:=fun hm=>by
  rcases k3 b hm with h | h
  ·exact d1 (.inl h)
  ·omega
 have e2:∀ i∈fr,i∉fl:=fun i hi hm=>d4 i hm i hi rfl
 have CD:=k4.block hb (fun h=>d1 (.inl h))
 have hN:AK w' [b]:=AK.cons CD (AK.nil w')
 refine ⟨b :: (C9 ++ fr),⟨b,PC,p',pr,C9,fr,rfl,rfl,Dj,k1.keep ho hN (fun i hi hm=>?_),(hr.keep k4 hl e2).keep ho hN (fun i hi hm=>?_)⟩,?_,?_,?_⟩
 ·obtain rfl:=List.mem_singleton.1 hm;exact e1 hi
 ·obtain rfl:=List.mem_singleton.1 hm;exact d1 (.inr hi)
 ·simp only [List.nodup_cons,List.nodup_append,List.mem_append]
  refine ⟨fun h=>?_,k2,d3,fun i hi j hj hij=>?_⟩
  ·rcases h with h | h
   ·exact e1 h
   ·exact d1 (.inr h)
  ·subst hij
   rcases k3 i hi with h | h
   ·exact d4 i h i hj rfl
   ·have:=yO i hj;omega
 ·intro i hi
  rcases List.mem_cons.1 hi with rfl | hi
  ·exact .inl List.mem_cons_self
  ·rcases List.mem_append.1 hi with hi | hi
   ·rcases k3 i hi with h | h
    ·exact .inl (List.mem_cons_of_mem _ (List.mem_append_left _ h))
    ·exact .inr h
   ·exact .inl (List.mem_cons_of_mem _ (List.mem_append_right _ hi))
 ·exact (k4.weaken (fun i hi=>List.mem_cons_of_mem _ (List.mem_append_left _ hi))).step ho (fun i hi => .inl (by obtain rfl:=List.mem_singleton.1 hi;exact List.mem_cons_self))
theorem Ml {w w' w2:World} {b:Nat} {y y2:Int} {av PC:Value} {pl pr p':Option Addr} {c c2:Bool} {fl fr:List Nat} {l r':RB Int} (hb:w.heap[b]?=some (EO y av pl pr c)) (hl:Ad w l pl fl) (hr:AK w fr) (hnd:(b :: (fl ++ fr)).Nodup)
 (k:Cg w fr r' (.pointer p') w') (ho:AA [b] w' w2) (Dj:w2.heap[b]?=some (EO y2 PC pl p' c2)) :
 ∃ Dx,C5 w2 l y2 r' c2 (some ⟨b,0,none⟩) Dx∧Dx.Nodup∧(∀ i∈Dx,i∈b :: (fl ++ fr)∨w.heap.size≤i)∧AA (b :: (fl ++ fr)) w w2:=by
 obtain ⟨p,C9,e,k1,k2,k3,k4⟩:=k
 obtain rfl:p'=p:=by injection e
 have y7:=lt_of_block hb
 have hls:=hl.nodes.lt
 simp only [List.nodup_cons,List.nodup_append,List.mem_append] at hnd
 obtain ⟨d1,d2,d3,d4⟩:=hnd
 have e1:b∉C9:=fun hm=>by
  rcases k3 b hm with h | h
  ·exact d1 (.inr h)
  ·omega
 have e2:∀ i∈fl,i∉fr:=fun i hi hm=>d4 i hi i hm rfl
 have CD:=k4.block hb (fun h=>d1 (.inr h))
 have hN:AK w' [b]:=AK.cons CD (AK.nil w')
 refine ⟨b :: (fl ++ C9),⟨b,PC,pl,p',fl,C9,rfl,rfl,Dj,(hl.keep k4 hr e2).keep ho hN (fun i hi hm=>?_),k1.keep ho hN (fun i hi hm=>?_)⟩,?_,?_,?_⟩
 ·obtain rfl:=List.mem_singleton.1 hm;exact d1 (.inl hi)
 ·obtain rfl:=List.mem_singleton.1 hm;exact e1 hi
 ·simp only [List.nodup_cons,List.nodup_append,List.mem_append]
  refine ⟨fun h=>?_,d2,k2,fun i hi j hj hij=>?_⟩
  ·rcases h with h | h
   ·exact d1 (.inl h)
   ·exact e1 h
  ·subst hij
   rcases k3 i hj with h | h
   ·exact d4 i hi i h rfl
   ·have:=hls i hi;omega
 ·intro i hi
  rcases List.mem_cons.1 hi with rfl | hi
  ·exact .inl List.mem_cons_self
  ·rcases List.mem_append.1 hi with hi | hi
   ·exact .inl (List.mem_cons_of_mem _ (List.mem_append_left _ hi))
   ·rcases k3 i hi with h | h
    ·exact .inl (List.mem_cons_of_mem _ (List.mem_append_right _ h))
    ·exact .inr h
 ·exact (k4.weaken (fun i hi=>List.mem_cons_of_mem _ (List.mem_append_right _ hi))).step ho (fun i hi => .inl (by obtain rfl:=List.mem_singleton.1 hi;exact List.mem_cons_self))
def Gq (a b:Int):Bool:=decide (a < b)
theorem Ex (x:Int):∀ t:RB Int,(RB.ins Gq t x).list.length=t.list.length+1
 | .nil=>rfl
 | .node l y r c=>by
   simp only [RB.ins]
   cases Gq x y
   ·rw [cond_false,RB.DD];simp only [RB.list,List.length_append,List.length_cons,Ex x r];omega
   ·rw [cond_true,RB.DD];simp only [RB.list,List.length_append,List.length_cons,Ex x l];omega
theorem Fv (tb:Nat) (p0:Option Addr) (n0:Int) (x:Int):∀ (t:RB Int) (p:Option Addr) (fp:List Nat) (w0:World) (hT:w0.heap[tb]?=some (C3 p0 n0)) (h:Ad w0 t p fp) (hnd:fp.Nodup) (hlen:t.list.length+1≤1000000),
 AM Tryz.prog 303 #[.pointer (some ⟨tb,0,none⟩),.pointer p,.int .i64 x] w0 fun v w'=>Cg w0 fp (RB.ins Gq t x) v w'
 | .nil,p,fp,w0,hT,⟨hp,hf⟩,hnd,hlen=>by
   subst hp hf
   have hs:=(St.nil w0).AG hT (by simp)
   refine AQ Tryz.func303 Tryz.ntmps303 (k:=?_)
   refine Je ?_
   refine cl (h:=by exact MW x _) (k:=?_)
   rintro v w' ⟨h1,ho⟩;replace hs:=hs.AL ho;obtain ⟨qO,oD,rfl,_⟩:=id h1;obtain ⟨R1,hs,h1⟩:=(h1).read hs rfl
   refine vs (k:=?_)
   refine bx hs (k:=?_);intro b w hz hs
   refine Jc ?_
   refine AF ?_
   have hd:=(h1 _ (fun e he=>hs.ro e (by simp [he])))
   have ho:AA [] w0 _:=hs.AB [] (by simp [hT]) (by simp [D0])
   have hnew:=hs.new (b,true) (by simp) rfl
   exact ⟨_,[b],rfl,⟨b,_,none,none,[],[],rfl,rfl,hs.get At.head,hd,⟨rfl,rfl⟩,⟨rfl,rfl⟩⟩,by simp,fun k hk => .inr (by obtain rfl:=List.mem_singleton.1 hk;exact hnew),ho⟩
 | .node l y r c,p,fp,w0,hT,⟨b,av,pl,pr,fl,fr,hp,hf,hb,Cm,hl,hr⟩,hnd,hlen=>by
   subst hp hf
   have Dw:=C2 hT hb
   have hs:=((St.nil w0).AG hT (by simp)).AG hb (by simpa using Dw)
   simp only [RB.list,List.length_append,List.length_cons] at hlen
   refine AQ Tryz.func303 Tryz.ntmps303 (k:=?_)
   refine Jd ?_
   refine dr [] hs (k:=?_);intro hX w hs
   refine tks 0 9 ?_
   refine dt 9 hX (k:=?_)
   refine AW hs (h:=by exact RF x y _) (k:=?_);intro w' ho hs
   refine Jb ?_
   refine dn (k:=?_)
   refine tk 10 hX (k:=?_)
   refine en (k:=?_)
   generalize hq:decide (x < y)=q
   cases q
   ·have e:RB.ins Gq (.node l y r c) x=RB.mend (.node l y (RB.ins Gq r x) c):=by simp [RB.ins,Gq,hq]
    rw [e]
    refine Jd ?_
    have AJ:AA [] w0 _:=hs.AB [] (by simp [hT,hb]) (by simp [D0])
    have CI:=head_keep hT AJ (AK.nil _)
    have E5:=hl.keep AJ (AK.nil _) (by simp)
    have hrw:=hr.keep AJ (AK.nil _) (by simp)
    have Bw:=hs.get At.head
    refine cl (h:=by exact Fv tb p0 n0 x r pr fr _ CI hrw (by simp only [List.nodup_cons,List.nodup_append] at hnd;exact hnd.2.2.1) om) (k:=?_)
    rintro v w' hk
    obtain ⟨p',hv⟩:∃ p',v = .pointer p':=by obtain ⟨p',_,hv,_⟩:=hk;exact ⟨p',hv⟩
    subst hv
    obtain ⟨_,_,_,_,_,_,k4⟩:=id hk
    have Bl:=head_keep CI k4 hrw.nodes
    have CD:=k4.block Bw (fun h=>by simp [h] at hnd)
    clear hs
    have hs:=((St.nil w').AG Bl (by simp)).AG CD (by simpa using Dw)
    repeat' (first|refine Sa ?_|(refine st hs (k:=?_);intro w hs)|fail)
    have AS:AA [b] w' _:=hs.AB [b] (by simp [Bl]) (by simp [D0])
    obtain ⟨Dx,s1,s2,s3,s4⟩:=Ml Bw E5 hrw.nodes hnd hk AS (hs.get At.head)
    refine cl (h:=by exact Fz tb p0 n0 _ y _ c _ _ _ (head_keep Bl AS (AK.cons CD (AK.nil _))) s1 s2 (by simp only [List.length_append,List.length_cons,Ex];omega)) (k:=?_)
    rintro v w3 hm
    have hsz:=AJ.size
    have hm2:=hm.up ((AJ.weaken (G:=b :: (fl ++ fr)) (by simp)).step s4 (fun k hk => .inl hk)) (fun k hk=>by rcases s3 k hk with h | h;exact .inl h;exact .inr om)
    have hs:=St.nil w3
    refine Jc ?_
    refine AF ?_
    exact hm2
   ·have e:RB.ins Gq (.node l y r c) x=RB.mend (.node (RB.ins Gq l x) y r c):=by simp [RB.ins,Gq,hq]
    rw [e]
    refine Je ?_
    have AJ:AA [] w0 _:=hs.AB [] (by simp [hT,hb]) (by simp [D0])
    have CI:=head_keep hT AJ (AK.nil _)
    have E5:=hl.keep AJ (AK.nil _) (by simp)
    have hrw:=hr.keep AJ (AK.nil _) (by simp)
    have Bw:=hs.get At.head
    refine cl (h:=by exact Fv tb p0 n0 x l pl fl _ CI E5 (by simp only [List.nodup_cons,List.nodup_append] at hnd;exact hnd.2.1) om) (k:=?_)
    rintro v w' hk
    obtain ⟨p',hv⟩:∃ p',v = .pointer p':=by obtain ⟨p',_,hv,_⟩:=hk;exact ⟨p',hv⟩
    subst hv
    obtain ⟨_,_,_,_,_,_,k4⟩:=id hk
    have Bl:=head_keep CI k4 E5.nodes
    have CD:=k4.block Bw (fun h=>by simp [h] at hnd)
    clear hs
    have hs:=((St.nil w').AG Bl (by simp)).AG CD (by simpa using Dw)
    repeat' (first|refine Sa ?_|(refine st hs (k:=?_);intro w hs)|fail)
    have AS:AA [b] w' _:=hs.AB [b] (by simp [Bl]) (by simp [D0])
    obtain ⟨Dx,s1,s2,s3,s4⟩:=Ow Bw E5.nodes hrw hnd hk AS (hs.get At.head)
    refine cl (h:=by exact Fz tb p0 n0 _ y _ c _ _ _ (head_keep Bl AS (AK.cons CD (AK.nil _))) s1 s2 (by simp only [List.length_append,List.length_cons,Ex];omega)) (k:=?_)
    rintro v w3 hm
    have hsz:=AJ.size
    have hm2:=hm.up ((AJ.weaken (G:=b :: (fl ++ fr)) (by simp)).step s4 (fun k hk => .inl hk)) (fun k hk=>by rcases s3 k hk with h | h;exact .inl h;exact .inr om)
    have hs:=St.nil w3
    refine Jc ?_
    refine AF ?_
    exact hm2
def RB.has {α:Type} (lt:α→α→Bool) (x:α):RB α→Bool
 | .nil=>false
 | .node l y r _=>bif lt x y then RB.has lt x l else bif lt y x then RB.has lt x r else true
theorem RB.PX {α:Type} {lt:α→α→Bool} {S:α→Prop} (ho:Cq lt S) {x:α} (hx:S x):∀ t:RB α,RB.K4 lt t.list→(∀ z∈t.list,S z)→(RB.has lt x t=true↔x∈t.list)
 | .nil,_,_=>by simp [RB.has,RB.list]
 | .node l y r c,hs,hS=>by
   obtain ⟨h1,h2,h3,h4,h5⟩:=RB.IU hs
   simp only [RB.list,List.mem_append,List.mem_cons] at hS
   have hl:=RB.PX ho hx l h1 fun z hz=>hS z (.inl hz)
   have hr:=RB.PX ho hx r h2 fun z hz=>hS z (.inr (.inr hz))
   have hy:=hS y (.inr (.inl rfl))
   simp only [RB.has,RB.list,List.mem_append,List.mem_cons]
   cases hxy:lt x y
   ·cases LO:lt y x
    ·simp only [cond_false,true_iff]
     exact .inr (.inl (ho.tri x y hx hy hxy LO))
    ·simp only [cond_false,cond_true,hr]
     constructor
     ·exact fun h => .inr (.inr h)
     ·rintro (h | rfl | h)
      ·have:=RB.asym ho hx hy (h3 x h);rw [LO] at this;cases this
      ·rw [ho.irr _ hx] at LO;cases LO
      ·exact h
   ·simp only [cond_true,hl]
    constructor
    ·exact .inl
    ·rintro (h | rfl | h)
     ·exact h
     ·rw [ho.irr _ hx] at hxy;cases hxy
     ·have:=RB.asym ho hy hx (h4 x h);rw [hxy] at this;cases this
theorem PI (tb:Nat) (p:Option Addr) (n:Int) (t:RB Int) (fp:List Nat) (x:Int) (w0:World) (hT:w0.heap[tb]?=some (C3 p n)) (h:Ad w0 t p fp) :
 AM Tryz.prog 302 #[.pointer (some ⟨tb,0,none⟩),.int .i64 x] w0 fun v w'=>v = .bool (RB.has Gq x t)∧AA [] w0 w':=by
 have hs:=(St.nil w0).AG hT (by simp)
 refine AQ Tryz.func302 Tryz.ntmps302 (k:=?_)
 refine Jd ?_
 have AJ:AA [] w0 _:=hs.AB [] (by simp [hT]) (by simp [D0])
 refine BH (fun _:Unit=>[]) (fun _ w=>RB.has Gq x t=false∧AA [] w0 w) ?_ ?_
 ·refine BF (fun (s:RB Int × Option Addr)=>[(0,.pointer (some ⟨tb,0,none⟩)),(1,.int .i64 x),(5,.pointer s.2)])
   (fun s w=>RB.has Gq x s.1=RB.has Gq x t∧AA [] w0 w∧∃ fp,Ad w0 s.1 s.2 fp)
   (fun s=>s.1.list.length) (t,p) Aa ⟨rfl,AJ,fp,h⟩ fun s env w ⟨h1,h2,Dx,h3⟩=>?_
  clear hs
  obtain ⟨s,ps⟩:=s
  dsimp only at h1 h3 ⊢
  have CI:=h2.block hT (by simp)
  cases s with
  | nil =>
    obtain ⟨rfl,rfl⟩:=h3
    have hs:=St.nil w
    refine Jd ?_
    exact Am () Aa ⟨h1.symm,h2.step (hs.AD rfl) (by simp)⟩
  | node l y r c =>
    obtain ⟨b,av,pl,pr,fl,fr,rfl,rfl,hb,Cm,hl,hr⟩:=h3
    have Bw:=h2.block hb (by simp)
    have Dw:=C2 hT hb
    have hs:=((St.nil w).AG CI (by simp)).AG Bw (by simpa using Dw)
    refine Je ?_
    refine dr [] hs (k:=?_);intro hX w hs
    refine tks 0 9 ?_
    refine dt 9 hX (k:=?_)
    refine AW hs (h:=by exact RF x y _) (k:=?_);intro w' ho hs
    refine Jb ?_
    refine dn (k:=?_)
    refine tk 10 hX (k:=?_)
    refine en (k:=?_)
    generalize hq:decide (x < y)=q
    simp only [RB.has,Gq,hq] at h1
    cases q
    ·refine Jg ?_
     refine dr [] hs (k:=?_);intro hX w hs
     refine tks 0 9 ?_
     refine dt 9 hX (k:=?_)
     refine AW hs (h:=by exact RF y x _) (k:=?_);intro w' ho hs
     refine Jb ?_
     refine dn (k:=?_)
     refine tk 10 hX (k:=?_)
     refine en (k:=?_)
     generalize GZ:decide (y < x)=q2
     simp only [GZ,cond_false] at h1
     cases q2
     ·refine Jd ?_
      refine AF ?_
      exact ⟨by rw [← h1];rfl,h2.step (hs.AB [] (by simp [CI,Bw]) (by simp [D0])) (by simp)⟩
     ·refine Je ?_
      exact A2 (r,pr) (by simp only [RB.list,List.length_append,List.length_cons];omega) Aa ⟨h1,h2.step (hs.AB [] (by simp [CI,Bw]) (by simp [D0])) (by simp),_,hr⟩
    ·refine Je ?_
     exact A2 (l,pl) (by simp only [RB.list,List.length_append,List.length_cons];omega) Aa ⟨h1,h2.step (hs.AB [] (by simp [CI,Bw]) (by simp [D0])) (by simp),_,hl⟩
 ·rintro _ env w ⟨h1,h2⟩
  clear hs
  have hs:=St.nil w
  refine Ja ?_
  refine AF ?_
  exact ⟨by rw [h1];rfl,h2.step (hs.AD rfl) (by simp)⟩
theorem NK (l:RB Int) (x:Int) (r:RB Int) (c:Bool):∃ l' x' r' c',RB.Dy (.node l x r c) = .node l' x' r' c':=by
 unfold RB.Dy
 cases l with
 | nil=>exact ⟨_,_,_,_,rfl⟩
 | node a y b d =>
   cases r with
   | nil=>cases d <;> exact ⟨_,_,_,_,rfl⟩
   | node u z v e=>cases d <;> cases e <;> exact ⟨_,_,_,_,rfl⟩
theorem KQ (l:RB Int) (x:Int) (r:RB Int) (c:Bool):∃ l' x' r' c',RB.mend (.node l x r c) = .node l' x' r' c':=by
 unfold RB.mend
 obtain ⟨l1,x1,r1,c1,e1⟩:=Ix l x r c
 obtain ⟨l2,x2,r2,c2,e2⟩:=Ia l1 x1 r1 c1
 rw [e1,e2]
 exact NK l2 x2 r2 c2
theorem Q9 (x:Int) (t:RB Int):∃ l' x' r' c',RB.ins Gq t x = .node l' x' r' c':=by
 cases t with
 | nil=>exact ⟨_,_,_,_,rfl⟩
 | node l y r c =>
   simp only [RB.ins]
   cases Gq x y
   ·exact KQ _ _ _ _
   ·exact KQ _ _ _ _
theorem Ad.Zd {w w':World} {F:List Nat} (ho:AA F w w') (hF:∀ b∈F,∀ cs fz,w.heap[b]?≠some (.cells cs 3 fz)):∀ {t:RB Int} {p:Option Addr} {fp:List Nat},Ad w t p fp→(∀ b∈fp,b∉F)→Ad w' t p fp
 | .nil,p,fp,h,_=>h
 | .node l x r c,p,fp,⟨b,av,pl,pr,fl,fr,h1,h2,h3,h4,h5,h6⟩,hd=>by
   subst h2
   refine ⟨b,av,pl,pr,fl,fr,h1,rfl,ho.block h3 (hd b List.mem_cons_self),?_,Ad.Zd ho hF h5 fun k hk=>hd k (List.mem_cons_of_mem _ (List.mem_append_left _ hk)),
    Ad.Zd ho hF h6 fun k hk=>hd k (List.mem_cons_of_mem _ (List.mem_append_right _ hk))⟩
   obtain ⟨ad,cap,rfl,oY⟩:=h4
   refine ⟨ad,cap,rfl,fun hn=>?_⟩
   obtain ⟨bb,off,cs,fz,g1,g2,g3,g4⟩:=oY hn
   exact ⟨bb,off,cs,fz,g1,g2,ho.block g3 (fun hm=>hF bb hm _ _ g3),g4⟩
theorem GG {w w':World} {b tb:Nat} {t:RB Int} {p p0:Option Addr} {n0:Int} {fp:List Nat} {cs:Array Value} {fz:Nat × Nat} (h:Ad w t p fp) (ho:AA [b,tb] w w') (hb:w.heap[b]?=some (.cells cs 325 fz)) (hT:w.heap[tb]?=some (C3 p0 n0)) (h1:b∉fp) (h2:tb∉fp):Ad w' t p fp:=by
 refine h.Zd ho (fun k hk cs fz e=>?_) (fun k hk hm=>?_)
 ·simp only [List.mem_cons,List.not_mem_nil,or_false] at hk
  rcases hk with rfl | rfl
  ·rw [hb] at e;cases e
  ·rw [hT] at e;cases e
 ·simp only [List.mem_cons,List.not_mem_nil,or_false] at hm
  rcases hm with rfl | rfl
  ·exact h1 hk
  ·exact h2 hk
def C8 (w:World) (tb:Nat) (t:RB Int) (F:List Nat):Prop:=∃ p fp,F=tb :: fp∧w.heap[tb]?=some (C3 p t.list.length)∧Ad w t p fp∧fp.Nodup
def RB.insert (t:RB Int) (x:Int):RB Int:=bif RB.has Gq x t then t else RB.blacken (RB.ins Gq t x)
theorem Fe (tb:Nat) (t:RB Int) (F:List Nat) (x:Int) (w0:World) (h:C8 w0 tb t F) (hlen:t.list.length+1≤1000000) :
 AM Tryz.prog 290 #[.pointer (some ⟨tb,0,none⟩),.int .i64 x] w0 fun v w'=>v = .bool (!RB.has Gq x t)∧∃ F',C8 w' tb (RB.insert t x) F'∧(∀ k∈F',k∈F∨w0.heap.size≤k)∧AA F w0 w':=by
 obtain ⟨p,fp,rfl,hT,ht,hnd⟩:=h
 have hs:=(St.nil w0).AG hT (by simp)
 refine AQ Tryz.func290 Tryz.ntmps290 (k:=?_)
 refine Ja ?_
 have AJ:AA [] w0 _:=hs.AB [] (by simp [hT]) (by simp [D0])
 refine AW hs (h:=by exact PI tb p _ t fp x _ (hs.get At.head) (ht.keep AJ (AK.nil _) (by simp))) (k:=?_);intro w' ho hs
 unfold RB.insert
 generalize hq:RB.has Gq x t=q
 cases q
 ·refine Jd ?_
  have AJ:AA [] w0 _:=hs.AB [] (by simp [hT]) (by simp [D0])
  have CI:=hs.get At.head
  refine cl (h:=by exact Fv tb p _ x t p fp _ CI (ht.keep AJ (AK.nil _) (by simp)) hnd hlen) (k:=?_)
  rintro v w1 ⟨p',C9,rfl,k1,k2,k3,k4⟩
  have Bl:=head_keep CI k4 (ht.keep AJ (AK.nil _) (by simp)).nodes
  obtain ⟨l',y,r',c,e⟩:=Q9 x t
  have hl':=Ex x t
  rw [e] at k1 hl' ⊢
  obtain ⟨b,av,pl,pr,fl,fr,rfl,rfl,hb,Cm,hl,hr⟩:=k1
  have Dw:=C2 Bl hb
  clear hs
  have hs:=((St.nil w1).AG Bl (by simp)).AG hb (by simpa using Dw)
  repeat' (first|refine Sa ?_|(refine st hs (k:=?_);intro w hs)|fail)
  have en:IntKind.i64.wrap ((t.list.length:Nat)+1)=((l'.list ++ y :: r'.list).length:Nat):=by
   have h1:(l'.list ++ y :: r'.list).length=t.list.length+1:=hl'
   rw [h1]
   exact Jz om om
  rw [en] at hs
  refine AF ?_
  have AS:AA [b,tb] w1 _:=hs.AB [b,tb] (by simp) (by simp [D0])
  have hsz:=AJ.size
  have Nd:b∉fl∧b∉fr:=by
   simp only [List.nodup_cons,List.mem_append,not_or] at k2
   exact k2.1
  have Ud:tb∉fl∧tb∉fr:=⟨(fun h=>by obtain ⟨_,_,h⟩:=hl.nodes tb h;rw [Bl] at h;cases h),(fun h=>by obtain ⟨_,_,h⟩:=hr.nodes tb h;rw [Bl] at h;cases h)⟩
  have h2:=hs.get At.head
  have h3:=hs.get (At.tail At.head)
  have o1:AA (tb :: fp) w0 w1:=(AJ.weaken (by simp)).step k4 (fun k hk => .inl (List.mem_cons_of_mem _ hk))
  refine ⟨rfl,tb :: (b :: (fl ++ fr)),⟨_,_,rfl,h3,⟨b,av,pl,pr,fl,fr,rfl,rfl,h2,?_,?_,?_⟩,k2⟩,?_,?_⟩
  ·obtain ⟨ad,cap,rfl,hd⟩:=Cm
   refine ⟨ad,cap,rfl,fun hn=>?_⟩
   obtain ⟨bb,off,cs,fz,g1,g2,g3,g4⟩:=hd hn
   refine ⟨bb,off,cs,fz,g1,g2,AS.block g3 (fun hm=>?_),g4⟩
   simp only [List.mem_cons,List.not_mem_nil,or_false] at hm
   rcases hm with rfl | rfl
   ·rw [hb] at g3;cases g3
   ·rw [Bl] at g3;cases g3
  ·exact GG hl AS hb Bl Nd.1 Ud.1
  ·exact GG hr AS hb Bl Nd.2 Ud.2
  ·intro k hk
   rcases List.mem_cons.1 hk with rfl | hk
   ·exact .inl List.mem_cons_self
   ·rcases k3 k hk with h | h
    ·exact .inl (List.mem_cons_of_mem _ h)
    ·exact .inr om
  ·refine o1.step AS (fun k hk=>?_)
   simp only [List.mem_cons,List.not_mem_nil,or_false] at hk
   rcases hk with rfl | rfl
   ·rcases k3 k List.mem_cons_self with h | h
    ·exact .inl (List.mem_cons_of_mem _ h)
    ·exact .inr om
   ·exact .inl List.mem_cons_self
 ·refine Je ?_
  refine AF ?_
  have AJ:AA [] w0 _:=hs.AB [] (by simp [hT]) (by simp [D0])
  exact ⟨rfl,_,⟨p,fp,rfl,hs.get At.head,ht.keep AJ (AK.nil _) (by simp),hnd⟩,fun k hk => .inl hk,AJ.weaken (by simp)⟩
def places (l:List It):List Pt:=l.map It.p
def D8 (l:List It):List Pt:=l.flatMap fun a=>[a.p,a.d]
def spr (base:Int) (l:List It):Int:=(IW (sinces base (D8 l)) - IX (sinces base (places l))) % 18446744073709551616
def Ii (ps:List Pt):List Value:=(ps.map Pt.cells).flatten
theorem OD (a b:List Pt):Ii (a ++ b)=Ii a ++ Ii b:=by simp [Ii]
def oJ (w0 w:World) (v1 v2:Value) (a b:List Pt):Prop:=∃ G1 G2,BS w 62 3 v1 a.length (Ii a) G1∧BS w 62 3 v2 b.length (Ii b) G2∧(∀ k∈G1,w0.heap.size≤k∧k∉G2)∧(∀ k∈G2,w0.heap.size≤k)
theorem Nn (a:List Pt):∀ x∈a.map Pt.cells,x.length=3:=fun x hx=>by obtain ⟨p,_,rfl⟩:=List.mem_map.1 hx;rfl
theorem Qt:∀ l:List It,(D8 l).length=2*l.length
 | []=>rfl
 | a :: l=>by have:=Qt l;simp only [D8,List.flatMap_cons,List.length_append,List.length_cons,List.length_nil] at *;omega
theorem RZ (base:Int) (l:List It) (sl:Value) (hm:l.length≤1000000) (w0:World) (hP:JF w0 sl l) :
 AM Tryz.prog 219 #[.int .u64 base,sl] w0 fun v w'=>v = .int .u64 (spr base l)∧AA [] w0 w':=by
 obtain ⟨ad,cap,rfl,hD⟩:=hP
 rw [List.length_map] at *
 have hs:=St.nil w0
 refine AQ Tryz.func219 Tryz.ntmps219 (k:=?_)
 refine Ja ?_
 refine BH (fun (s:Value × Value)=>[(0,.int .u64 base),(5,s.1),(6,s.2)]) (fun s w=>AA [] w0 w∧oJ w0 w s.1 s.2 (places l) (D8 l)) ?_ ?_
 ·refine BF (fun (s:Nat × Value × Value)=>[(0,.int .u64 base),(5,s.2.1),(6,s.2.2),(13,.slice ad l.length cap),(14,.int .i64 (l.length:Nat)),(15,.int .i64 (s.1:Nat))])
   (fun s w=>s.1≤l.length∧AA [] w0 w∧oJ w0 w s.2.1 s.2.2 (places (l.take s.1)) (D8 (l.take s.1))) (fun s=>l.length - s.1) (0,.slice none 0 0,.slice none 0 0) Aa ⟨Nat.zero_le _,hs.AD rfl,[],[],.inl ⟨rfl,rfl,rfl,rfl⟩,.inl ⟨rfl,rfl,rfl,rfl⟩,by simp,by simp⟩ fun s env wl ⟨hi,BL,hT⟩=>?_
  obtain ⟨i,v5,v6⟩:=s
  simp only at hi hT
  clear hs
  have hs:=St.nil wl
  repeat' (first|refine Sa ?_|refine Av rfl (fun hc=>?_) fun hc=>?_|fail)
  ·have hlt:i < l.length:=by omega
   obtain ⟨b,off,cs,fz,rfl,_,hb,hcs⟩:=hD (fun h=>by simp at h;subst h;cases hlt)
   have hpk:=hcs i (It.cells l[i]) (by rw [List.getElem?_map,List.getElem?_eq_getElem hlt];rfl)
   have ei:=DH (m:=l.length) hlt om
   have e1:places (l.take (i+1))=places (l.take i) ++ [l[i].p]:=by rw [CS hlt];unfold places;rw [List.map_append];rfl
   have e2:D8 (l.take (i+1))=D8 (l.take i) ++ [l[i].p,l[i].d]:=by rw [CS hlt];unfold D8;rw [List.flatMap_append];rfl
   have n1:(places (l.take i)).length=i:=by simp [places];omega
   have n2:(D8 (l.take i)).length=2*i:=by rw [Qt];simp;omega
   generalize l[i]=q at *
   generalize places (l.take i)=A at *
   generalize D8 (l.take i)=B at *
   refine ix (h0:=(by omega)) (h1:=(by omega)) (k:=?_)
   refine JQ (BL.block hb (by simp)) hpk (k:=?_)
   refine al hs (k:=?_);intro b8 w8 hz hs
   repeat' (first|refine Nx.h ?_|(refine AU hs (k:=?_);intro w hs)|fail)
   obtain ⟨G1,G2,h1,h2,hd,hn⟩:=hT
   have LJ:=h1.lt
   have hl2:=h2.lt
   refine dr [] hs (k:=?_);intro hX w hs
   refine tks 0 3 ?_
   refine tks 5 5 ?_
   refine mB 10 29 (q.p.cells ++ q.d.cells) hs (k:=?_);intro f X w hp;have hs:=hp.st
   apply BG 3 10 (f:=f) (X:=X) hX hp;exact rfl;exact rfl;(first | (apply AR AI;exact rfl) | (apply EA AI;exact rfl;exact rfl;exact rfl;exact rfl;exact rfl;(intro X;((repeat (first | exact CW.nil | (apply CW.one;exact rfl;(conv=>lhs;whnf);exact rfl;(repeat (first | exact Ai.nil | apply Ai.skip | apply Ai.cons))) | (apply CW.agg;exact rfl;exact rfl;exact rfl;(repeat (first | exact Ai.nil | apply Ai.skip | apply Ai.cons)))))))));kernel_rfl;kernel_rfl;kernel_rfl;kernel_rfl;(intro X Y;(repeat (first | exact A4 | refine A3 ?_ (by exact rfl))));(intro w' hs;first|exact AH hs.hold|exact AH hs.hold.tail|exact A8 rfl);intro f X w hp;have hs:=hp.st
   refine uW hp (k:=?_);intro b3 w3 _ hp;replace hs:=hp.st
   refine Jb ?_
   refine dn (k:=?_)
   apply BG 4 10 (f:=f) (X:=X) hX hp;exact rfl;exact rfl;(first | (apply AR AI;exact rfl) | (apply EA AI;exact rfl;exact rfl;exact rfl;exact rfl;exact rfl;(intro X;((repeat (first | exact CW.nil | (apply CW.one;exact rfl;(conv=>lhs;whnf);exact rfl;(repeat (first | exact Ai.nil | apply Ai.skip | apply Ai.cons))) | (apply CW.agg;exact rfl;exact rfl;exact rfl;(repeat (first | exact Ai.nil | apply Ai.skip | apply Ai.cons)))))))));kernel_rfl;kernel_rfl;kernel_rfl;kernel_rfl;(intro X Y;(repeat (first | exact A4 | refine A3 ?_ (by exact rfl))));(intro w' hs;first|exact AH hs.hold|exact AH hs.hold.tail|exact A8 rfl);intro f X w hp;have hs:=hp.st
   have GM:=hs.get At.head
   have k1:=h1.keep hs.only (by simp [olds,D0])
   refine CE AI rfl rfl rfl rfl rfl rfl rfl (by decide) (lit_cells (news:=q.p.cells) GM) (by simp [Value.oneCell']) k1 om om ?_
   intro MV w4 ⟨G1',h3,QY⟩ Al
   have Nc:=hs.size
   have hp:=hp.Zf Al LJ rfl rfl (J:=fun w=>BS w 62 3 MV (A.length+1) (Ii A ++ q.p.cells) G1') h3 (fun _ _ ho h=>h.keep ho (by simp))
   replace hs:=hp.st
   refine Jb ?_
   refine dn (k:=?_)
   apply B9 10 (f:=f) (X:=X) hX hp;exact rfl;(first | (apply AR AI;exact rfl) | (apply EA AI;exact rfl;exact rfl;exact rfl;exact rfl;exact rfl;(intro X;((repeat (first | exact CW.nil | (apply CW.one;exact rfl;(conv=>lhs;whnf);exact rfl;(repeat (first | exact Ai.nil | apply Ai.skip | apply Ai.cons))) | (apply CW.agg;exact rfl;exact rfl;exact rfl;(repeat (first | exact Ai.nil | apply Ai.skip | apply Ai.cons)))))))));kernel_rfl;kernel_rfl;(intro X Y;(repeat (first | exact A4 | refine A3 ?_ (by exact rfl))));(intro w' hs;first|exact AH hs.hold|exact AH hs.hold.tail|exact A8 rfl);intro b w hI hs
   refine dt 11 hX (k:=?_)
   have aBR:=hs.get At.head
   have k2:=h2.keep hs.only (fun k hk hm=>by simp [olds,D0] at hm;exact (hd k hm).2 hk)
   refine CE AI rfl rfl rfl rfl rfl rfl rfl (by decide) (lit_cells (news:=q.p.cells ++ q.d.cells) aBR) (by simp [Value.oneCell']) k2 om om ?_
   intro v6' w6 ⟨G2',h4,QX⟩ Ak
   have hz5:=hs.size
   have h5:=hI.keep Ak (fun k hk hm=>by
    rcases QY k hk with h | h
    ·exact (hd k h).2 hm
    ·have:=hl2 k hm;omega)
   have Wv:=hI.lt
   replace hs:=hs.Zf Ak hl2 rfl rfl
   refine Jb ?_
   refine dn (k:=?_)
   refine tks 12 2 ?_
   refine en (k:=?_)
   refine Ja ?_
   have dN:=hs.size
   have Nu:=BL.size
   refine A2 (i+1,MV,v6') (by show l.length - (i+1) < l.length - i;omega) (by (repeat (first | exact Ac | (apply A5;first | exact rfl | exact congrArg (Value.int .i64) ei)))) ⟨by show i+1≤l.length;omega,BL.step (hs.Bu.Bu.Bu.only) ?_,G1',G2',?_,?_,?_,?_⟩
   ·intro k hk
    simp [olds,D0] at hk
    rcases hk with hk | hk
    ·exact .inr (hn k hk)
    ·exact .inr (hd k hk).1
   ·simp only [e1];rw [OD,List.length_append];exact h5
   ·simp only [e2];rw [OD,List.length_append];exact h4
   ·intro k hk
    have h7:=Wv k hk
    refine ⟨?_,fun hm=>?_⟩
    ·rcases QY k hk with h | h
     ·exact (hd k h).1
     ·omega
    ·rcases QX k hm with h | h
     ·rcases QY k hk with h' | h'
      ·exact (hd k h').2 h
      ·have:=hl2 k h;omega
     ·omega
   ·intro k hk
    rcases QX k hk with h | h
    ·exact hn k h
    ·omega
  ·have MT:¬ ((i:Int) < l.length):=hc
   have e:i=l.length:=by omega
   subst e
   rw [List.take_length] at hT
   exact Am (v5,v6) Aa ⟨BL,hT⟩
 ·rintro ⟨v5,v6⟩ env w ⟨BL,G1,G2,h1,h2,hd,hn⟩
  simp only at h1 h2
  clear hs
  have hs:=St.nil w
  have nP:(places l).length≤1000000:=by simp [places];exact hm
  have nB:(D8 l).length≤2000000:=by rw [Qt];omega
  have l1:=h1.ls rfl (by simp) (Nn _)
  have l2:=h2.ls rfl (by simp) (Nn _)
  have m1:=rY (l:=sinces base (places l)) (fun d hd=>by obtain ⟨p,_,rfl⟩:=List.mem_map.1 hd;exact oE _ _)
  have m2:=rN (l:=sinces base (D8 l)) (fun d hd=>by obtain ⟨p,_,rfl⟩:=List.mem_map.1 hd;exact oE _ _)
  refine Ja ?_
  refine AW hs (h:=by exact Rr base (places l) v5 om _ l1) (k:=?_);intro w' ho hs;refine Ja ?_
  refine AW hs (h:=by exact Rr base (D8 l) v6 om _ (l2.only (hs.AD rfl))) (k:=?_);intro w' ho hs;refine Ja ?_
  refine AF ?_
  refine ⟨?_,BL.trans (hs.AD rfl)⟩
  refine N0 ?_
  unfold spr
  obtain ⟨a1,a2⟩:=m1
  obtain ⟨a3,a4⟩:=m2
  simp only [wrap_u64]
  omega
end Go.Proofs.Q0
namespace Go.Proofs.Q0
open Go Go.RowKit
def Fl (w:World):RB Int→Option Addr→Prop
 | .nil,p=>p=none
 | .node l x r c,p=>∃ b av pl pr,p=some ⟨b,0,none⟩∧w.heap[b]?=some (EO x av pl pr c)∧Fl w l pl∧Fl w r pr
theorem Ad.shape {w:World}:∀ {t:RB Int} {p:Option Addr} {fp:List Nat},Ad w t p fp→Fl w t p
 | .nil,_,_,⟨h,_⟩=>h
 | .node l x r c,_,_,⟨b,av,pl,pr,fl,fr,h1,h2,h3,h4,h5,h6⟩=>⟨b,av,pl,pr,h1,h3,h5.shape,h6.shape⟩
def fG (w:World) (F:List Nat):Prop:=∀ b∈F,∀ cs fz,w.heap[b]?≠some (.cells cs 325 fz)
theorem Fl.keep {w w':World} {F:List Nat} (ho:AA F w w') (hF:fG w F):∀ {t:RB Int} {p:Option Addr},Fl w t p→Fl w' t p
 | .nil,_,h=>h
 | .node l x r c,_,⟨b,av,pl,pr,h1,h3,h5,h6⟩=>⟨b,av,pl,pr,h1,ho.block h3 (fun hm=>hF b hm _ _ h3),Fl.keep ho hF h5,Fl.keep ho hF h6⟩
theorem BS.O3 {w:World} {v:Value} {n:Nat} {xs:List Value} {G:List Nat} (h:BS w 3 1 v n xs G):fG w G:=by
 rcases h with ⟨_,_,_,rfl⟩ | ⟨g,cap,cur,_,rfl,_,_,_,_,hg⟩
 ·intro b hb;cases hb
 ·intro b hb cs fz e
  obtain rfl:=List.mem_singleton.1 hb
  rw [hg] at e;cases e
theorem BS.dat {w:World} {v:Value} {xs:List Int} {G:List Nat} (h:BS w 3 1 v xs.length (ints xs) G):HL w v xs:=by
 rcases h with ⟨rfl,h2,h3,h4⟩ | ⟨g,cap,cur,rfl,rfl,h3,h4,h5,h6,hg⟩
 ·obtain rfl:=List.length_eq_zero_iff.1 h2
  exact ⟨none,0,rfl,fun h=>absurd rfl h⟩
 ·refine ⟨_,cap,rfl,fun _=>⟨g,0,cur,(0,0),rfl,h3,hg,fun i d hi=>?_⟩⟩
  have h7:(ints xs)[i]?=some (.int .i64 d):=by simp [ints,hi]
  rw [← h6,List.getElem?_take] at h7
  rw [Nat.zero_add]
  split at h7
  ·exact h7
  ·cases h7
end Go.Proofs.Q0
namespace Go.Proofs.Q0
open Go Go.RowKit
attribute [local irreducible] XS XC XA AX AO A6 AZ AY A7 Ab AV SE
theorem RB.NQ {α:Type}:∀ t:RB α,t.depth≤t.list.length
 | .nil=>Nat.le_refl _
 | .node l x r c=>by
   have:=RB.NQ l
   have:=RB.NQ r
   simp only [RB.depth,RB.list,List.length_append,List.length_cons]
   omega
theorem Ol:∀ (t:RB Int) (p:Option Addr) (w0:World) (h:Fl w0 t p) (hlen:t.list.length≤1000000),AM Tryz.prog 305 #[.pointer p] w0 fun v w'=>v = .int .i64 (t.depth:Nat)∧AA [] w0 w'
 | .nil,p,w0,h,hlen=>by
   have hp:p=none:=h
   subst hp
   have hs:=St.nil w0
   refine AQ Tryz.func305 Tryz.ntmps305 (k:=?_)
   refine Je ?_
   refine AF ?_
   exact ⟨rfl,hs.AD rfl⟩
 | .node l x r c,p,w0,⟨b,av,pl,pr,hp,hb,hl,hr⟩,hlen=>by
   subst hp
   simp only [RB.list,List.length_append,List.length_cons] at hlen
   have hs:=(St.nil w0).AG hb (by simp)
   refine AQ Tryz.func305 Tryz.ntmps305 (k:=?_)
   refine Jd ?_
   refine dr [] hs (k:=?_);intro hX w hs
   refine tks 0 4 ?_
   refine tks 5 4 ?_
   refine dt 4 hX (k:=?_)
   refine AW hs (h:=by exact Ol l pl _ (hl.keep (hs.AB [] (by simp [hb]) (by simp [D0])) (fun b h=>by cases h)) om) (k:=?_);intro w' ho hs
   refine Jb ?_
   refine dn (k:=?_)
   refine dt 9 hX (k:=?_)
   refine AW hs (h:=by exact Ol r pr _ (hr.keep (hs.AB [] (by simp [hb]) (by simp [D0])) (fun b h=>by cases h)) om) (k:=?_);intro w' ho hs
   refine Jb ?_
   refine dn (k:=?_)
   refine tks 10 3 ?_
   refine en (k:=?_)
   refine Jb ?_
   refine AF ?_
   refine ⟨?_,hs.AB [] (by simp [hb]) (by simp [D0])⟩
   have h1:=RB.NQ l
   have h2:=RB.NQ r
   refine congrArg (Value.int .i64) ?_
   have e:(if (r.depth:Int) > (l.depth:Int) then (r.depth:Int) else (l.depth:Int))=((max l.depth r.depth:Nat):Int):=by split <;> omega
   show IntKind.i64.wrap (1+(if (r.depth:Int) > (l.depth:Int) then (r.depth:Int) else (l.depth:Int)))=((1+max l.depth r.depth:Nat):Int)
   rw [e]
   rw [Jz om om]
   omega
theorem X9 (tb:Nat) (t:RB Int) (F:List Nat) (w0:World) (h:C8 w0 tb t F) (hlen:t.list.length≤1000000) :
 AM Tryz.prog 292 #[.pointer (some ⟨tb,0,none⟩)] w0 fun v w'=>v = .int .i64 (t.depth:Nat)∧AA [] w0 w':=by
 obtain ⟨p,fp,rfl,hT,ht,hnd⟩:=h
 have hs:=(St.nil w0).AG hT (by simp)
 refine AQ Tryz.func292 Tryz.ntmps292 (k:=?_)
 refine Jd ?_
 refine AW hs (h:=by exact Ol t p _ (ht.shape.keep (hs.AB [] (by simp [hT]) (by simp [D0])) (fun b h=>by cases h)) hlen) (k:=?_);intro w' ho hs;refine Jc ?_
 refine AF ?_
 exact ⟨rfl,hs.AB [] (by simp [hT]) (by simp [D0])⟩
theorem MF (w0:World):AM Tryz.prog 298 #[.func (.func 299) #[] #[],.func (.func 300) #[] #[],.func (.func 301) #[] #[]] w0 fun v w'=>∃ tb F,v = .pointer (some ⟨tb,0,none⟩)∧C8 w' tb .nil F∧(∀ k∈F,w0.heap.size≤k)∧AA [] w0 w':=by
 have hs:=St.nil w0
 refine AQ Tryz.func298 Tryz.ntmps298 (k:=?_)
 refine Ag ?_
 refine Aq ?_
 refine vs (k:=?_)
 refine XS.nil ?_
 refine Dt ?_
 refine Ag ?_
 refine Aq ?_
 refine vs (k:=?_)
 refine vs (k:=?_)
 refine vs (k:=?_)
 refine vs (k:=?_)
 refine bx hs (k:=?_);intro b w hz hs
 refine Jc ?_
 refine AF ?_
 have hnew:=hs.new (b,true) (by simp) rfl
 exact ⟨b,[b],rfl,⟨none,[],rfl,hs.get At.head,⟨rfl,rfl⟩,List.nodup_nil⟩,fun k hk=>by obtain rfl:=List.mem_singleton.1 hk;exact hnew,hs.AD rfl⟩
theorem jV (w0:World):AM Tryz.prog 289 #[] w0 fun v w'=>∃ tb F,v = .pointer (some ⟨tb,0,none⟩)∧C8 w' tb .nil F∧(∀ k∈F,w0.heap.size≤k)∧AA [] w0 w':=by
 have hs:=St.nil w0
 refine AQ Tryz.func289 Tryz.ntmps289 (k:=?_)
 refine Ja ?_
 refine cl (h:=by exact MF _) (k:=?_)
 rintro v w' ⟨tb,F,rfl,h1,h2,h3⟩
 replace hs:=hs.AL h3
 refine Jc ?_
 refine AF ?_
 exact ⟨tb,F,rfl,h1,h2,hs.AD rfl⟩
end Go.Proofs.Q0
