/- The walk of Format. Conditions: addresses are numbers below 2^32; Go's own tables and the words lie below the world's blocks (EnvB). -/
import Derived.Test.YtnhemjdmleilcaaGreatDoorQryL
namespace Go.Proofs.YtnhemjdmleilcaaGreatDoor
open Go.RowKit

def bFrom : List UInt8 := [32, 102, 114, 111, 109, 32]
def bTo : List UInt8 := [32, 116, 111, 32]
def bVia : List UInt8 := [32, 118, 105, 97, 32]
def bLeft : List UInt8 := [32, 108, 101, 102, 116, 32]
def bRight : List UInt8 := [32, 114, 105, 103, 104, 116, 32]
def bSrc : List UInt8 := [32, 115, 114, 99, 32]
def bDst : List UInt8 := [32, 100, 115, 116, 32]
def bProto : List UInt8 := [32, 112, 114, 111, 116, 111, 32]
def bSport : List UInt8 := [32, 115, 112, 111, 114, 116, 32]
def bDport : List UInt8 := [32, 100, 112, 111, 114, 116, 32]
def bFails : List UInt8 := [32, 102, 97, 105, 108, 117, 114, 101, 115, 32]
def kindT (k : Int) : List UInt8 := kindWords.getD (k - 1).toNat []
def fm1 (q : Qr) : List UInt8 := cat (kindT q.kind) (placeT bFrom q.fr q.fi)
def fm2 (q : Qr) : List UInt8 := if aimedB q.kind then cat (fm1 q) (placeT bTo q.tr q.ti) else fm1 q
def fm3 (q : Qr) : List UInt8 := if q.kind = 3 then cat (fm2 q) (cat bVia q.via) else if q.kind = 6 then cat (fm2 q) (cat (cat (cat bLeft (pfxF q.la q.ll)) bRight) (pfxF q.ra q.rl)) else fm2 q
def fm4 (q : Qr) : List UInt8 := if zeroP q.sa q.sl then fm3 q else cat (fm3 q) (cat bSrc (pfxF q.sa q.sl))
def fm5 (q : Qr) : List UInt8 := if zeroP q.da q.dl then fm4 q else cat (fm4 q) (cat bDst (pfxF q.da q.dl))
def fm6 (q : Qr) : List UInt8 := if q.proto = -1 then fm5 q else cat (fm5 q) (cat bProto (dec q.proto.toNat))
def fm7 (q : Qr) : List UInt8 := cat (fm6 q) (cat (portT bSport q.slo q.shi) (portT bDport q.dlo q.dhi))
def fm8 (q : Qr) : List UInt8 := if q.fails = 0 then fm7 q else cat (fm7 q) (cat bFails (dec q.fails.toNat))
def fmtQ (q : Qr) : List UInt8 := if validE q = 0 then fm8 q else []

/-- What a valid query is. -/
structure Okq (q : Qr) : Prop where
  k1 : 1 ≤ q.kind
  k2 : q.kind ≤ 6
  f1 : 0 ≤ q.fails
  f2 : q.fails ≤ 2
  fr : nameB q.fr = true
  fi : optB q.fi = true
  aim : aimedB q.kind = true → nameB q.tr = true ∧ optB q.ti = true
  noaim : aimedB q.kind = false → q.tr = [] ∧ q.ti = []
  via : q.kind = 3 → nameB q.via = true
  novia : q.kind ≠ 3 → q.via = []
  eq : q.kind = 6 → validP q.la q.ll = true ∧ validP q.ra q.rl = true ∧ q.ll = q.rl
  noeq : q.kind ≠ 6 → (q.la = 0 ∧ q.ll = 0) ∧ q.ra = 0 ∧ q.rl = 0
  vs : validP q.sa q.sl = true
  vd : validP q.da q.dl = true
  p1 : -1 ≤ q.proto
  p2 : q.proto ≤ 255
  s1 : 0 ≤ q.slo
  s2 : q.slo ≤ q.shi
  s3 : q.shi ≤ 65535
  d1 : 0 ≤ q.dlo
  d2 : q.dlo ≤ q.dhi
  d3 : q.dhi ≤ 65535
theorem okq {q : Qr} (h : validE q = 0) : Okq q := by
  unfold validE at h
  split at h; · cases h
  rename_i h1
  split at h; · cases h
  rename_i h2
  split at h; · cases h
  rename_i h3
  split at h; · cases h
  rename_i h4
  split at h; · cases h
  rename_i h5
  split at h; · cases h
  rename_i h6
  split at h; · cases h
  rename_i h7
  split at h; · cases h
  rename_i h8
  split at h; · cases h
  rename_i h9
  simp only [Bool.or_eq_true, Bool.and_eq_true, Bool.not_eq_true', not_or, not_and, Bool.not_eq_false, beq_iff_eq, bne_iff_ne, ne_eq, List.isEmpty_iff, zeroP, matchB, portB, decide_eq_true_eq] at h1 h2 h3 h4 h5 h6 h7 h8 h9
  obtain ⟨⟨⟨⟨⟨m1, m2⟩, m3⟩, m4⟩, ⟨m5, m6⟩, m7⟩, ⟨m8, m9⟩, m10⟩ := h9
  refine ⟨by omega, by omega, by omega, by omega, h2.1, h2.2, h3, ?_, h5, ?_, ?_, ?_, m1, m2, m3, m4, m5, m6, m7, m8, m9, m10⟩
  · intro ha
    simpa using h4 ha
  · intro ha
    simpa using h6 ha
  · intro ha
    have := h7 ha
    exact ⟨this.1.1, this.1.2, by simpa using this.2⟩
  · intro ha
    have := h8 ha
    simpa using this

theorem nameB_len {l : List UInt8} (h : nameB l = true) : l.length ≤ 15 := by
  cases l with
  | nil => simp
  | cons c r => simp only [nameB, Bool.and_eq_true, decide_eq_true_eq] at h; simp; omega
theorem optB_len {l : List UInt8} (h : optB l = true) : l.length ≤ 15 := by
  unfold optB at h
  simp only [Bool.or_eq_true, List.isEmpty_iff] at h
  rcases h with rfl | h
  · simp
  · exact nameB_len h
theorem Okq.tr15 {q : Qr} (h : Okq q) : q.tr.length ≤ 15 ∧ q.ti.length ≤ 15 := by
  cases ha : aimedB q.kind with
  | true => exact ⟨nameB_len (h.aim ha).1, optB_len (h.aim ha).2⟩
  | false => rw [(h.noaim ha).1, (h.noaim ha).2]; simp
theorem Okq.via15 {q : Qr} (h : Okq q) : q.via.length ≤ 15 := by
  by_cases ha : q.kind = 3
  · exact nameB_len (h.via ha)
  · rw [h.novia ha]; simp
theorem placeT_len (l r i : List UInt8) : (placeT l r i).length ≤ l.length + r.length + i.length + 7 := by
  unfold placeT
  split
  · rw [cat_len]; omega
  · rw [cat_len, cat_len, cat_len]; simp [bIface]; omega
theorem kindT_len (k : Int) : (kindT k).length ≤ 8 := by
  unfold kindT
  rcases (k - 1).toNat with _ | _ | _ | _ | _ | _ | n <;> simp [kindWords]
theorem hostF_len (a : Nat) (n : Int) : (hostF a n).length ≤ 20 := by
  unfold hostF
  split
  · have := fmtA_len a
    have := dec_len 1 n.toNat (by omega)
    simp; omega
  · simp
theorem pfxF_len (a : Nat) (n : Int) : (pfxF a n).length ≤ 20 := by
  unfold pfxF
  split
  · exact hostF_len a n
  · simp
theorem portT_len (l : List UInt8) (lo hi : Int) (h1 : lo ≤ 65535) (h2 : hi ≤ 65535) : (portT l lo hi).length ≤ l.length + 13 := by
  unfold portT
  split
  · simp
  · rw [cat_len, cat_len, cat_len]
    have := dec_len 5 lo.toNat (by omega)
    have := dec_len 5 hi.toNat (by omega)
    simp; omega
theorem fm1_len {q : Qr} (h : Okq q) : (fm1 q).length ≤ 100 := by
  unfold fm1
  have := kindT_len q.kind
  have := placeT_len bFrom q.fr q.fi
  have := nameB_len h.fr
  have := optB_len h.fi
  rw [cat_len]
  simp [bFrom] at *
  omega
theorem fm2_len {q : Qr} (h : Okq q) : (fm2 q).length ≤ 200 := by
  unfold fm2
  have := fm1_len h
  have := placeT_len bTo q.tr q.ti
  have := h.tr15
  split
  · rw [cat_len]; simp [bTo] at *; omega
  · omega
theorem fm3_len {q : Qr} (h : Okq q) : (fm3 q).length ≤ 300 := by
  unfold fm3
  have := fm2_len h
  have := h.via15
  have := pfxF_len q.la q.ll
  have := pfxF_len q.ra q.rl
  split
  · rw [cat_len, cat_len]; simp [bVia] at *; omega
  · split
    · rw [cat_len, cat_len, cat_len, cat_len]; simp [bLeft, bRight] at *; omega
    · omega
theorem fm4_len {q : Qr} (h : Okq q) : (fm4 q).length ≤ 400 := by
  unfold fm4
  have := fm3_len h
  have := pfxF_len q.sa q.sl
  split
  · omega
  · rw [cat_len, cat_len]; simp [bSrc] at *; omega
theorem fm5_len {q : Qr} (h : Okq q) : (fm5 q).length ≤ 500 := by
  unfold fm5
  have := fm4_len h
  have := pfxF_len q.da q.dl
  split
  · omega
  · rw [cat_len, cat_len]; simp [bDst] at *; omega
theorem fm6_len {q : Qr} (h : Okq q) : (fm6 q).length ≤ 600 := by
  unfold fm6
  have := fm5_len h
  have := dec_len 5 q.proto.toNat (by have := h.p2; omega)
  split
  · omega
  · rw [cat_len, cat_len]; simp [bProto] at *; omega
theorem fm7_len {q : Qr} (h : Okq q) : (fm7 q).length ≤ 700 := by
  unfold fm7
  have := fm6_len h
  have := portT_len bSport q.slo q.shi (by have := h.s2; have := h.s3; omega) h.s3
  have := portT_len bDport q.dlo q.dhi (by have := h.d2; have := h.d3; omega) h.d3
  rw [cat_len, cat_len]; simp [bSport, bDport] at *; omega
theorem fm8_len {q : Qr} (h : Okq q) : (fm8 q).length ≤ 800 := by
  unfold fm8
  have := fm7_len h
  have := dec_len 5 q.fails.toNat (by have := h.f2; omega)
  split
  · omega
  · rw [cat_len, cat_len]; simp [bFails] at *; omega
end Go.Proofs.YtnhemjdmleilcaaGreatDoor
